/- The document's Reader: piece. -/
import Derived.Test.YtofgkildlhcpdaaK3
import Derived.WalkKit
set_option linter.unusedVariables false
set_option linter.unusedSimpArgs false
namespace Go.Proofs.Ytofgkildlhcpdaa
open Go.RowKit Bt
/-- where the reader stands between two rounds -/
def PS (s : ByteArray) (g o : Nat) (x : Int) (p q : Nat) (t : Tree) (wr : World) : Prop :=
  (∃ q' : Nat, AtG wr g 89 (rdr s (q' : Int) (o : Int) 0 x) ∧ q ≤ q' ∧ q' ≤ s.size ∧ ∀ r, P s (.pieceL t) o q' r → P s .piece o p r) ∨ (∃ (c : Int) (y : Nat) (pb : Int), c ≠ 0 ∧ AtG wr g 89 (rdr s pb (o : Int) c (y : Int)) ∧ P s .piece o p (.no c y))
theorem PS.put {s : ByteArray} {g o : Nat} {x : Int} {p q : Nat} {t : Tree} {wr wr0 : World} (h : PS s g o x p (q + 1) t wr) (hl : leftR s g wr0 = s.size + 2 - q) (hq : q ≤ s.size) (ob : Obj) (b3 : Nat) (hb : g ≠ b3) (op : Int) (f : Nat → Bool) (mn mx : Int) (kv : Value) :
    PS s g o x p 0 t ((putN wr b3 op f mn mx kv).alloc ob) ∧ leftR s g ((putN wr b3 op f mn mx kv).alloc ob) < leftR s g wr0 := by
  rcases h with ⟨q', h1, h2, h3, h4⟩ | ⟨c, y, pb, h1, h2, h3⟩
  · have h5 := (putN_far h1 hb op f mn mx kv).alloc ob
    refine ⟨.inl ⟨q', h5, Nat.zero_le _, h3, h4⟩, ?_⟩
    rw [leftR_ok h5, hl]; omega
  · have h5 := (putN_far h2 hb op f mn mx kv).alloc ob
    refine ⟨.inr ⟨c, y, pb, h1, h5, h3⟩, ?_⟩
    rw [leftR_no h5 h1, hl]; omega
set_option maxRecDepth 100000 in
set_option maxHeartbeats 4000000 in
theorem piece_any (g : Nat) (s : ByteArray) (p o : Nat) (x : Int) (w : World) (h : AtG w g 89 (rdr s p o 0 x)) (hp : p ≤ s.size) (hm : s.size ≤ 1000) (ho2 : o ≤ 20) (hpat : PatC s g x (p + 1)) :
    Calls Try.prog 69 #[.pointer (some ⟨g, 0, none⟩)] w (NPost s g o x w .piece p) := by
  have HM := Lib.hid hm; have HLT := Lib.hid h.lt; have H0 := Lib.hid (atM_start h)
  have HAT := Lib.hid (atom_any g s p o x (w.alloc (.cells nodeZ 29)) (AtG.alloc h _) hp hm ho2 hpat)
  clear h ho2 hpat
  go_enter Try.func69, Try.ntmps69
  go_wp2_with fail
  refine (HAT.out).mono ?_
  rintro e9 w3 ⟨t, kv, rfl, hK, hO, r, hPr, hS, hi⟩
  obtain ⟨op, f, mn, mx, kids⟩ := t
  obtain ⟨ka, kc, rfl⟩ := KAt.slice hK
  have hrin := P.in hPr hp
  have hw3 : w.heap.size < w3.heap.size := by have := hO.size; simp at this; omega
  have hheld : Held g w w3.heap.size (.node op f mn mx kids) (.slice ka kids.length kc) (w3.alloc (.cells (nodeC op f mn mx (.slice ka kids.length kc)) 29)) :=
    ⟨AtG.new _ _ _, KAt.keep (fun b hb => ((Below.refl w3.heap.size w3).alloc (Nat.le_refl _) _).block b hb.2) (fun b hb => ⟨⟨by have := hb.1; simp at this; omega, by have := hb.2; simp; omega⟩, by have := hb.2; omega⟩) _ _ hK,
      (H0.out.cell.only hO (by show ¬ (w.heap.size = g); have := HLT.out; omega)).alloc _, (H0.out.only.tr hO).al _⟩
  have HH := Lib.hid hheld
  have HPS0 : Hid (PS s g o x p 0 (.node op f mn mx kids) (w3.alloc (.cells (nodeC op f mn mx (.slice ka kids.length kc)) 29))) := Lib.hid (by
    cases r with
    | ok t' q =>
      have := hi t' q rfl
      subst this
      exact .inl ⟨q, AtG.alloc hS _, Nat.zero_le _, hrin.2, fun r hr => P.pieceOk hPr hr⟩
    | no c y =>
      obtain ⟨pb, hS⟩ := hS
      exact .inr ⟨c, y, pb, by have := hrin.1; omega, hS.alloc _, P.pieceNo hPr⟩)
  have HB3 := Lib.hid hw3
  have HNE : Hid (g ≠ w3.heap.size) := Lib.hid (by have := HLT.out; omega)
  clear hK hO hPr hS hi hrin hw3 hheld hp
  unfold nodeV
  dsimp only
  go_wp2_with fail
  go_loopw [] (fun wr => ∃ (op : Int) (f : Nat → Bool) (mn mx : Int) (kids : List Tree) (ka : Option Addr) (kc : Nat), Held g w w3.heap.size (.node op f mn mx kids) (.slice ka kids.length kc) wr ∧ PS s g o x p 0 (.node op f mn mx kids) wr) (fun wr => leftR s g wr)
  case atStart => exact ⟨op, f, mn, mx, kids, ka, kc, HH.out, HPS0.out⟩
  case round =>
    clear HH HPS0
    obtain ⟨op, f, mn, mx, kids, ka, kc, hH, ⟨q, ha, _, hq, hin⟩ | ⟨cc, yy, pb, hcc, ha, hpn⟩⟩ := hrel
    · have HH := Lib.hid hH; have HA := Lib.hid ha; have HQ := Lib.hid hq; have HIN := Lib.hid hin
      have HLR := Lib.hid (leftR_ok ha)
      have HPK := Lib.hid (fun w h => peek_any g s q o x w h)
      have HNX := Lib.hid (fun w h hc => next_ch g s q o x w h hc (by have := HM.out; omega))
      obtain ⟨kn, hkn⟩ : ∃ kn, kn = kids.length := ⟨_, rfl⟩
      rw [← hkn] at HH
      clear hH ha hin hkn
      by_cases h63 : ch s q = 63
      · have HC := Lib.hid h63
        have hlt := ch_ge (s := s) (p := q) (by omega)
        have HLTQ := Lib.hid hlt
        rw [h63] at HPK HNX
        clear h63 hq hlt
        go_wp2_with fail
        refine (HPK.out _ HA.out).mono ?_
        rintro e9 w4 ⟨rfl, hb⟩
        have HA4 := Lib.hid (HA.out.below hb); have H4 := Lib.hid (HH.out.below HLT.out HB3.out hb)
        clear hb
        go_wp2_with fail
        refine (HNX.out _ HA4.out (by decide)).mono ?_
        rintro e9 w5 ⟨rfl, hA, hO⟩
        have HA5 := Lib.hid hA; have H5 := Lib.hid (H4.out.next HLT.out HB3.out hO)
        clear hA hO
        have k0 : w5.cell? ⟨w3.heap.size, 0, none⟩ = some (.int .i64 op) := H5.out.node.cell 0 _ rfl
        have k1 : w5.cell? ⟨w3.heap.size, 1, none⟩ = some (.int .u64 ((wd f 0 : Nat) : Int)) := H5.out.node.cell 1 _ rfl
        have k2 : w5.cell? ⟨w3.heap.size, 2, none⟩ = some (.int .u64 ((wd f 1 : Nat) : Int)) := H5.out.node.cell 2 _ rfl
        have k3 : w5.cell? ⟨w3.heap.size, 3, none⟩ = some (.int .u64 ((wd f 2 : Nat) : Int)) := H5.out.node.cell 3 _ rfl
        have k4 : w5.cell? ⟨w3.heap.size, 4, none⟩ = some (.int .u64 ((wd f 3 : Nat) : Int)) := H5.out.node.cell 4 _ rfl
        have k5 : w5.cell? ⟨w3.heap.size, 5, none⟩ = some (.int .i64 mn) := H5.out.node.cell 5 _ rfl
        have k6 : w5.cell? ⟨w3.heap.size, 6, none⟩ = some (.int .i64 mx) := H5.out.node.cell 6 _ rfl
        have k7 : w5.cell? ⟨w3.heap.size, 7, none⟩ = some (.slice ka kn kc) := H5.out.node.cell 7 _ rfl
        have fz0 := H5.out.node.frozen 0
        have fz1 := H5.out.node.frozen 1
        have fz2 := H5.out.node.frozen 2
        have fz3 := H5.out.node.frozen 3
        have fz4 := H5.out.node.frozen 4
        have fz5 := H5.out.node.frozen 5
        have fz6 := H5.out.node.frozen 6
        have fz7 := H5.out.node.frozen 7
        have hlw : w3.heap.size < w5.heap.size := H5.out.node.lt
        have hnw : ¬ w3.heap.size = w5.heap.size := by omega
        have hfin := H5.out.step HLT.out HB3.out (0) (1)
        have hps := PS.put (x := x) (p := p) (t := repT (0) (1) (.node op f mn mx kids)) (.inl ⟨q + 1, HA5.out, Nat.le_refl _, HLTQ.out, fun r hr => HIN.out _ (P.opt HC.out hr)⟩) HLR.out HQ.out (.cells (nodeC op f mn mx (.slice ka kn kc)) 29) w3.heap.size HNE.out 4 emp (0) (1) (.slice (some ⟨w5.heap.size, 0, none⟩) 1 1)
        unfold putN at hfin hps
        simp only [wd_emp] at hfin hps
        have HFIN := Lib.hid hfin; have HPS := Lib.hid hps
        clear hfin hps
        go_wp2_with fail
        exact ⟨⟨4, emp, _, _, _, _, _, HFIN.out, HPS.out.1⟩, HPS.out.2⟩
      by_cases h123 : ch s q = 123
      · have HC := Lib.hid h123
        have hlt := ch_ge (s := s) (p := q) (by omega)
        have HLTQ := Lib.hid hlt
        rw [h123] at HPK HNX
        clear h63 h123 hq hlt
        go_wp2_with fail
        refine (HPK.out _ HA.out).mono ?_
        rintro e9 w4 ⟨rfl, hb⟩
        have HA4 := Lib.hid (HA.out.below hb); have H4 := Lib.hid (HH.out.below HLT.out HB3.out hb)
        clear hb
        go_wp2_with fail
        refine (HPK.out _ HA4.out).mono ?_
        rintro e9 w5 ⟨rfl, hb⟩
        have HA5 := Lib.hid (HA4.out.below hb); have H5 := Lib.hid (H4.out.below HLT.out HB3.out hb)
        clear hb
        go_wp2_with fail
        refine (HNX.out _ HA5.out (by decide)).mono ?_
        rintro e9 w6 ⟨rfl, hA, hO⟩
        have HA6 := Lib.hid hA; have H6 := Lib.hid (H5.out.next HLT.out HB3.out hO)
        clear hA hO
        go_wp2_with fail
        refine (number_any g s (q + 1) o x _ HA6.out HLTQ.out HM.out).mono ?_
        rintro e9 w7 ⟨v1, rfl, hS, hO, hv, hv0, hv99⟩
        have H7 := Lib.hid (H6.out.next HLT.out HB3.out hO)
        have hnin := numF_in s (q + 1) HLTQ.out
        have hte0 : timesF s (q + 1) = match numF s (q + 1) with | .no c x => .no c x | .ok low q => timesE s low (if ch s q = 44 then numF s (q + 1) else .ok low q) := rfl
        cases hnf : numF s (q + 1) with
        | no c1 y1 =>
          rw [hnf] at hS hnin hte0
          obtain ⟨pb, hS⟩ := hS
          have HCC : Hid (c1 ≠ 0) := Lib.hid (by have := hnin.1.1; omega)
          have HS := Lib.hid hS; have HTN := Lib.hid hte0
          clear hO hS hv hnin hte0 hnf
          go_wp2_with fail
          refine (peek_bad g s pb o c1 _ _ HS.out HCC.out).mono ?_
          rintro e9 wb ⟨rfl, hb⟩
          have HSb := Lib.hid (HS.out.below hb); have Hb := Lib.hid (H7.out.below HLT.out HB3.out hb)
          clear hb
          go_wp2_with fail
          refine (next_bad g s (pb) o (c1) _ _ (HSb).out HCC.out).mono ?_
          rintro e9 w8 ⟨rfl, hb⟩
          have HS8 := Lib.hid ((HSb).out.below hb); have H8 := Lib.hid ((Hb).out.below HLT.out HB3.out hb)
          have z1 : w8.cell? ⟨g, 1, none⟩ = some (.int .i64 (pb)) := HS8.out.cell 1 _ rfl
          clear hb
          go_wp2_with fail
          refine (fail_no g s _ o (c1) _ _ 2 _ HS8.out HCC.out).mono ?_
          rintro e9 w9 ⟨rfl, rfl⟩
          have k0 : w9.cell? ⟨w3.heap.size, 0, none⟩ = some (.int .i64 op) := H8.out.node.cell 0 _ rfl
          have k1 : w9.cell? ⟨w3.heap.size, 1, none⟩ = some (.int .u64 ((wd f 0 : Nat) : Int)) := H8.out.node.cell 1 _ rfl
          have k2 : w9.cell? ⟨w3.heap.size, 2, none⟩ = some (.int .u64 ((wd f 1 : Nat) : Int)) := H8.out.node.cell 2 _ rfl
          have k3 : w9.cell? ⟨w3.heap.size, 3, none⟩ = some (.int .u64 ((wd f 2 : Nat) : Int)) := H8.out.node.cell 3 _ rfl
          have k4 : w9.cell? ⟨w3.heap.size, 4, none⟩ = some (.int .u64 ((wd f 3 : Nat) : Int)) := H8.out.node.cell 4 _ rfl
          have k5 : w9.cell? ⟨w3.heap.size, 5, none⟩ = some (.int .i64 mn) := H8.out.node.cell 5 _ rfl
          have k6 : w9.cell? ⟨w3.heap.size, 6, none⟩ = some (.int .i64 mx) := H8.out.node.cell 6 _ rfl
          have k7 : w9.cell? ⟨w3.heap.size, 7, none⟩ = some (.slice ka kn kc) := H8.out.node.cell 7 _ rfl
          have fz0 := H8.out.node.frozen 0
          have fz1 := H8.out.node.frozen 1
          have fz2 := H8.out.node.frozen 2
          have fz3 := H8.out.node.frozen 3
          have fz4 := H8.out.node.frozen 4
          have fz5 := H8.out.node.frozen 5
          have fz6 := H8.out.node.frozen 6
          have fz7 := H8.out.node.frozen 7
          have hlw : w3.heap.size < w9.heap.size := H8.out.node.lt
          have hnw : ¬ w3.heap.size = w9.heap.size := by omega
          have hfin := H8.out.step HLT.out HB3.out (v1) (v1)
          have hps := PS.put (x := x) (p := p) (t := repT (v1) (v1) (.node op f mn mx kids)) (.inr ⟨c1, y1, _, HCC.out, HS8.out, HIN.out _ (P.timesNo HC.out HTN.out)⟩) HLR.out HQ.out (.cells (nodeC op f mn mx (.slice ka kn kc)) 29) w3.heap.size HNE.out 4 emp (v1) (v1) (.slice (some ⟨w9.heap.size, 0, none⟩) 1 1)
          unfold putN at hfin hps
          simp only [wd_emp] at hfin hps
          have HFIN := Lib.hid hfin; have HPS := Lib.hid hps
          clear hfin hps
          go_wp2_with fail
          exact ⟨⟨4, emp, _, _, _, _, _, HFIN.out, HPS.out.1⟩, HPS.out.2⟩
        | ok v' q1 =>
          rw [hnf] at hS hnin hte0 hv
          dsimp only at hte0
          obtain rfl := hv v' q1 rfl
          have hS : AtG w7 g 89 (rdr s (q1 : Int) o 0 x) := hS
          have HS := Lib.hid hS; have HQ1 := Lib.hid hnin.1
          have HPK1 := Lib.hid (peek_any g s q1 o x _ hS)
          clear hO hS hv hnin hnf
          by_cases h44 : ch s q1 = 44
          · have hlt1 := ch_ge (s := s) (p := q1) (by omega)
            rw [if_pos h44] at hte0
            have HTE0 := Lib.hid hte0; have HLT1 := Lib.hid hlt1
            rw [h44] at HPK1
            obtain ⟨qi, hqi⟩ : ∃ qi : Int, qi = (q1 : Int) := ⟨_, rfl⟩
            have hqi0 : 0 ≤ qi := by omega
            have hqi1 : qi < 1000 := by have := HM.out; omega
            have HQI := Lib.hid hqi
            clear hte0 hlt1 h44 hqi
            go_wp2_with fail
            refine (HPK1.out).mono ?_
            rintro e9 wa ⟨rfl, hb⟩
            have hAa := HS.out.below hb
            rw [← HQI.out] at hAa
            have HAa := Lib.hid hAa; have Ha := Lib.hid (H7.out.below HLT.out HB3.out hb)
            have z1 : wa.cell? ⟨g, 1, none⟩ = some (.int .i64 qi) := HAa.out.cell 1 _ rfl
            have x1 := HAa.out.frozen 1
            clear hb hAa
            go_wp2_with fail
            have hat : AtG (wa.setCell ⟨g, 1, none⟩ (.int .i64 (qi + 1))) g 89 (rdr s ((q1 + 1 : Nat) : Int) o 0 x) := by
              rw [show ((q1 + 1 : Nat) : Int) = qi + 1 from by have := HQI.out; omega]; exact HAa.out.set 1 _
            have Hc := Lib.hid (Ha.out.next HLT.out HB3.out ((Only.refl (S := fun k => k = g) wa).st g 1 (.int .i64 (qi + 1)) (.inl rfl)))
            refine (number_any g s (q1 + 1) o x _ hat HLT1.out HM.out).mono ?_
            rintro e9 wc ⟨v2, rfl, hS2, hO2, hv2, hw0, hw99⟩
            have Hc2 := Lib.hid (Hc.out.next HLT.out HB3.out hO2)
            have hnin2 := numF_in s (q1 + 1) HLT1.out
            clear hat hO2 z1 x1
            cases hnf2 : numF s (q1 + 1) with
            | no c2 y2 =>
              have HTN : Hid (timesF s (q + 1) = .no c2 y2) := Lib.hid (by rw [HTE0.out, hnf2]; rfl)
              rw [hnf2] at hS2 hnin2
              obtain ⟨pb, hS2⟩ := hS2
              have HCC : Hid (c2 ≠ 0) := Lib.hid (by have := hnin2.1.1; omega)
              have HS2 := Lib.hid hS2
              clear hS2 hv2 hnin2 hnf2
              go_wp2_with fail
              refine (next_bad g s (pb) o (c2) _ _ (HS2).out HCC.out).mono ?_
              rintro e9 w8 ⟨rfl, hb⟩
              have HS8 := Lib.hid ((HS2).out.below hb); have H8 := Lib.hid ((Hc2).out.below HLT.out HB3.out hb)
              have z1 : w8.cell? ⟨g, 1, none⟩ = some (.int .i64 (pb)) := HS8.out.cell 1 _ rfl
              clear hb
              go_wp2_with fail
              refine (fail_no g s _ o (c2) _ _ 2 _ HS8.out HCC.out).mono ?_
              rintro e9 w9 ⟨rfl, rfl⟩
              have k0 : w9.cell? ⟨w3.heap.size, 0, none⟩ = some (.int .i64 op) := H8.out.node.cell 0 _ rfl
              have k1 : w9.cell? ⟨w3.heap.size, 1, none⟩ = some (.int .u64 ((wd f 0 : Nat) : Int)) := H8.out.node.cell 1 _ rfl
              have k2 : w9.cell? ⟨w3.heap.size, 2, none⟩ = some (.int .u64 ((wd f 1 : Nat) : Int)) := H8.out.node.cell 2 _ rfl
              have k3 : w9.cell? ⟨w3.heap.size, 3, none⟩ = some (.int .u64 ((wd f 2 : Nat) : Int)) := H8.out.node.cell 3 _ rfl
              have k4 : w9.cell? ⟨w3.heap.size, 4, none⟩ = some (.int .u64 ((wd f 3 : Nat) : Int)) := H8.out.node.cell 4 _ rfl
              have k5 : w9.cell? ⟨w3.heap.size, 5, none⟩ = some (.int .i64 mn) := H8.out.node.cell 5 _ rfl
              have k6 : w9.cell? ⟨w3.heap.size, 6, none⟩ = some (.int .i64 mx) := H8.out.node.cell 6 _ rfl
              have k7 : w9.cell? ⟨w3.heap.size, 7, none⟩ = some (.slice ka kn kc) := H8.out.node.cell 7 _ rfl
              have fz0 := H8.out.node.frozen 0
              have fz1 := H8.out.node.frozen 1
              have fz2 := H8.out.node.frozen 2
              have fz3 := H8.out.node.frozen 3
              have fz4 := H8.out.node.frozen 4
              have fz5 := H8.out.node.frozen 5
              have fz6 := H8.out.node.frozen 6
              have fz7 := H8.out.node.frozen 7
              have hlw : w3.heap.size < w9.heap.size := H8.out.node.lt
              have hnw : ¬ w3.heap.size = w9.heap.size := by omega
              have hfin := H8.out.step HLT.out HB3.out (v1) (v2)
              have hps := PS.put (x := x) (p := p) (t := repT (v1) (v2) (.node op f mn mx kids)) (.inr ⟨c2, y2, _, HCC.out, HS8.out, HIN.out _ (P.timesNo HC.out HTN.out)⟩) HLR.out HQ.out (.cells (nodeC op f mn mx (.slice ka kn kc)) 29) w3.heap.size HNE.out 4 emp (v1) (v2) (.slice (some ⟨w9.heap.size, 0, none⟩) 1 1)
              unfold putN at hfin hps
              simp only [wd_emp] at hfin hps
              have HFIN := Lib.hid hfin; have HPS := Lib.hid hps
              clear hfin hps
              go_wp2_with fail
              exact ⟨⟨4, emp, _, _, _, _, _, HFIN.out, HPS.out.1⟩, HPS.out.2⟩
            | ok v'' q2 =>
              rw [hnf2] at hS2 hnin2 hv2
              obtain rfl := hv2 v'' q2 rfl
              have HTE : Hid (timesF s (q + 1) = timesE s v1 (.ok v2 q2)) := Lib.hid (by rw [HTE0.out, hnf2])
              have hS2 : AtG wc g 89 (rdr s (q2 : Int) o 0 x) := hS2
              have HS2 := Lib.hid hS2
              have HQ2 : Hid (q + 1 ≤ q2 ∧ q2 ≤ s.size) := Lib.hid ⟨by have := hnin2.1.1; have := HQ1.out.1; omega, hnin2.1.2⟩
              clear hS2 hv2 hnin2 hnf2 HTE0 HPK1
              have hq2 : q2 ≤ s.size := (HQ2.out).2
              by_cases hd0 : ch s (q2) < 0
              · have HN2 := Lib.hid (next_no g s (q2) o x _ (HS2).out hq2 hd0)
                have HTN : Hid (timesF s (q + 1) = .no 2 (q2)) := Lib.hid (by rw [(HTE).out, timesE, if_pos (.inl (by omega))])
                clear hd0 hq2
                go_wp2_with fail
                refine (HN2.out).mono ?_
                rintro e9 w8 ⟨rfl, hA, hO⟩
                have HA8 := Lib.hid hA; have H8 := Lib.hid ((Hc2).out.next HLT.out HB3.out hO)
                have z1 : w8.cell? ⟨g, 1, none⟩ = some (.int .i64 ((q2 : Nat) : Int)) := HA8.out.cell 1 _ rfl
                clear hA hO
                go_wp2_with fail
                refine (fail_no g s _ o 2 _ _ 2 _ HA8.out (by decide)).mono ?_
                rintro e9 w9 ⟨rfl, rfl⟩
                have k0 : w9.cell? ⟨w3.heap.size, 0, none⟩ = some (.int .i64 op) := H8.out.node.cell 0 _ rfl
                have k1 : w9.cell? ⟨w3.heap.size, 1, none⟩ = some (.int .u64 ((wd f 0 : Nat) : Int)) := H8.out.node.cell 1 _ rfl
                have k2 : w9.cell? ⟨w3.heap.size, 2, none⟩ = some (.int .u64 ((wd f 1 : Nat) : Int)) := H8.out.node.cell 2 _ rfl
                have k3 : w9.cell? ⟨w3.heap.size, 3, none⟩ = some (.int .u64 ((wd f 2 : Nat) : Int)) := H8.out.node.cell 3 _ rfl
                have k4 : w9.cell? ⟨w3.heap.size, 4, none⟩ = some (.int .u64 ((wd f 3 : Nat) : Int)) := H8.out.node.cell 4 _ rfl
                have k5 : w9.cell? ⟨w3.heap.size, 5, none⟩ = some (.int .i64 mn) := H8.out.node.cell 5 _ rfl
                have k6 : w9.cell? ⟨w3.heap.size, 6, none⟩ = some (.int .i64 mx) := H8.out.node.cell 6 _ rfl
                have k7 : w9.cell? ⟨w3.heap.size, 7, none⟩ = some (.slice ka kn kc) := H8.out.node.cell 7 _ rfl
                have fz0 := H8.out.node.frozen 0
                have fz1 := H8.out.node.frozen 1
                have fz2 := H8.out.node.frozen 2
                have fz3 := H8.out.node.frozen 3
                have fz4 := H8.out.node.frozen 4
                have fz5 := H8.out.node.frozen 5
                have fz6 := H8.out.node.frozen 6
                have fz7 := H8.out.node.frozen 7
                have hlw : w3.heap.size < w9.heap.size := H8.out.node.lt
                have hnw : ¬ w3.heap.size = w9.heap.size := by omega
                have hfin := H8.out.step HLT.out HB3.out (v1) (v2)
                have hps := PS.put (x := x) (p := p) (t := repT (v1) (v2) (.node op f mn mx kids)) (.inr ⟨2, q2, _, by decide, HA8.out, HIN.out _ (P.timesNo HC.out HTN.out)⟩) HLR.out HQ.out (.cells (nodeC op f mn mx (.slice ka kn kc)) 29) w3.heap.size HNE.out 4 emp (v1) (v2) (.slice (some ⟨w9.heap.size, 0, none⟩) 1 1)
                unfold putN at hfin hps
                simp only [wd_emp] at hfin hps
                have HFIN := Lib.hid hfin; have HPS := Lib.hid hps
                clear hfin hps
                go_wp2_with fail
                exact ⟨⟨4, emp, _, _, _, _, _, HFIN.out, HPS.out.1⟩, HPS.out.2⟩
              · have hlt2 := ch_ge (s := s) (p := q2) (by omega)
                have HN2 := Lib.hid (next_ch g s (q2) o x _ (HS2).out (by omega) (by have := HM.out; omega))
                have hte : timesF s (q + 1) = timesE s (v1) (.ok (v2) (q2)) := (HTE).out
                rw [timesE] at hte
                obtain ⟨ri, hri⟩ : ∃ ri : Int, ri = ((q2 + 1 : Nat) : Int) := ⟨_, rfl⟩
                have hri2 : ri - 1 = ((q2 : Nat) : Int) := by omega
                have hri3 : 0 ≤ ri - 1 := by omega
                have hri4 : ri < 10000 := by have := HM.out; omega
                rw [← hri] at HN2
                have HRI := Lib.hid hri
                have HLT2 := Lib.hid hlt2
                generalize ch s (q2) = d at *
                clear hri hlt2 hd0 hq2
                by_cases h125 : d = 125
                · subst h125
                  by_cases hh1 : (v2) < 1
                  · rw [if_pos (.inr (.inl hh1))] at hte
                    have HTN := Lib.hid hte
                    clear hte
                    go_wp2_with fail
                    refine (HN2.out).mono ?_
                    rintro e9 w8 ⟨rfl, hA, hO⟩
                    have HA8 := Lib.hid hA; have H8 := Lib.hid ((Hc2).out.next HLT.out HB3.out hO)
                    have z1 : w8.cell? ⟨g, 1, none⟩ = some (.int .i64 ri) := HA8.out.cell 1 _ rfl
                    clear hA hO
                    go_wp2_with fail
                    refine (failO g s _ o x _ 2 _ HA8.out).mono ?_
                    rintro e9 w9 ⟨rfl, hA, hO⟩
                    have HA9 := Lib.hid hA; have H9 := Lib.hid (H8.out.next HLT.out HB3.out hO)
                    clear hA hO z1
                    have k0 : w9.cell? ⟨w3.heap.size, 0, none⟩ = some (.int .i64 op) := H9.out.node.cell 0 _ rfl
                    have k1 : w9.cell? ⟨w3.heap.size, 1, none⟩ = some (.int .u64 ((wd f 0 : Nat) : Int)) := H9.out.node.cell 1 _ rfl
                    have k2 : w9.cell? ⟨w3.heap.size, 2, none⟩ = some (.int .u64 ((wd f 1 : Nat) : Int)) := H9.out.node.cell 2 _ rfl
                    have k3 : w9.cell? ⟨w3.heap.size, 3, none⟩ = some (.int .u64 ((wd f 2 : Nat) : Int)) := H9.out.node.cell 3 _ rfl
                    have k4 : w9.cell? ⟨w3.heap.size, 4, none⟩ = some (.int .u64 ((wd f 3 : Nat) : Int)) := H9.out.node.cell 4 _ rfl
                    have k5 : w9.cell? ⟨w3.heap.size, 5, none⟩ = some (.int .i64 mn) := H9.out.node.cell 5 _ rfl
                    have k6 : w9.cell? ⟨w3.heap.size, 6, none⟩ = some (.int .i64 mx) := H9.out.node.cell 6 _ rfl
                    have k7 : w9.cell? ⟨w3.heap.size, 7, none⟩ = some (.slice ka kn kc) := H9.out.node.cell 7 _ rfl
                    have fz0 := H9.out.node.frozen 0
                    have fz1 := H9.out.node.frozen 1
                    have fz2 := H9.out.node.frozen 2
                    have fz3 := H9.out.node.frozen 3
                    have fz4 := H9.out.node.frozen 4
                    have fz5 := H9.out.node.frozen 5
                    have fz6 := H9.out.node.frozen 6
                    have fz7 := H9.out.node.frozen 7
                    have hlw : w3.heap.size < w9.heap.size := H9.out.node.lt
                    have hnw : ¬ w3.heap.size = w9.heap.size := by omega
                    have hfin := H9.out.step HLT.out HB3.out (v1) (v2)
                    have hps := PS.put (x := x) (p := p) (t := repT (v1) (v2) (.node op f mn mx kids)) (.inr ⟨2, q2, _, by decide, HA9.out, HIN.out _ (P.timesNo HC.out HTN.out)⟩) HLR.out HQ.out (.cells (nodeC op f mn mx (.slice ka kn kc)) 29) w3.heap.size HNE.out 4 emp (v1) (v2) (.slice (some ⟨w9.heap.size, 0, none⟩) 1 1)
                    unfold putN at hfin hps
                    simp only [wd_emp] at hfin hps
                    have HFIN := Lib.hid hfin; have HPS := Lib.hid hps
                    clear hfin hps
                    go_wp2_with fail
                    exact ⟨⟨4, emp, _, _, _, _, _, HFIN.out, HPS.out.1⟩, HPS.out.2⟩
                  by_cases hh2 : 32 < (v2)
                  · rw [if_pos (.inr (.inr (.inl hh2)))] at hte
                    have HTN := Lib.hid hte
                    clear hte
                    go_wp2_with fail
                    refine (HN2.out).mono ?_
                    rintro e9 w8 ⟨rfl, hA, hO⟩
                    have HA8 := Lib.hid hA; have H8 := Lib.hid ((Hc2).out.next HLT.out HB3.out hO)
                    have z1 : w8.cell? ⟨g, 1, none⟩ = some (.int .i64 ri) := HA8.out.cell 1 _ rfl
                    clear hA hO
                    go_wp2_with fail
                    refine (failO g s _ o x _ 2 _ HA8.out).mono ?_
                    rintro e9 w9 ⟨rfl, hA, hO⟩
                    have HA9 := Lib.hid hA; have H9 := Lib.hid (H8.out.next HLT.out HB3.out hO)
                    clear hA hO z1
                    have k0 : w9.cell? ⟨w3.heap.size, 0, none⟩ = some (.int .i64 op) := H9.out.node.cell 0 _ rfl
                    have k1 : w9.cell? ⟨w3.heap.size, 1, none⟩ = some (.int .u64 ((wd f 0 : Nat) : Int)) := H9.out.node.cell 1 _ rfl
                    have k2 : w9.cell? ⟨w3.heap.size, 2, none⟩ = some (.int .u64 ((wd f 1 : Nat) : Int)) := H9.out.node.cell 2 _ rfl
                    have k3 : w9.cell? ⟨w3.heap.size, 3, none⟩ = some (.int .u64 ((wd f 2 : Nat) : Int)) := H9.out.node.cell 3 _ rfl
                    have k4 : w9.cell? ⟨w3.heap.size, 4, none⟩ = some (.int .u64 ((wd f 3 : Nat) : Int)) := H9.out.node.cell 4 _ rfl
                    have k5 : w9.cell? ⟨w3.heap.size, 5, none⟩ = some (.int .i64 mn) := H9.out.node.cell 5 _ rfl
                    have k6 : w9.cell? ⟨w3.heap.size, 6, none⟩ = some (.int .i64 mx) := H9.out.node.cell 6 _ rfl
                    have k7 : w9.cell? ⟨w3.heap.size, 7, none⟩ = some (.slice ka kn kc) := H9.out.node.cell 7 _ rfl
                    have fz0 := H9.out.node.frozen 0
                    have fz1 := H9.out.node.frozen 1
                    have fz2 := H9.out.node.frozen 2
                    have fz3 := H9.out.node.frozen 3
                    have fz4 := H9.out.node.frozen 4
                    have fz5 := H9.out.node.frozen 5
                    have fz6 := H9.out.node.frozen 6
                    have fz7 := H9.out.node.frozen 7
                    have hlw : w3.heap.size < w9.heap.size := H9.out.node.lt
                    have hnw : ¬ w3.heap.size = w9.heap.size := by omega
                    have hfin := H9.out.step HLT.out HB3.out (v1) (v2)
                    have hps := PS.put (x := x) (p := p) (t := repT (v1) (v2) (.node op f mn mx kids)) (.inr ⟨2, q2, _, by decide, HA9.out, HIN.out _ (P.timesNo HC.out HTN.out)⟩) HLR.out HQ.out (.cells (nodeC op f mn mx (.slice ka kn kc)) 29) w3.heap.size HNE.out 4 emp (v1) (v2) (.slice (some ⟨w9.heap.size, 0, none⟩) 1 1)
                    unfold putN at hfin hps
                    simp only [wd_emp] at hfin hps
                    have HFIN := Lib.hid hfin; have HPS := Lib.hid hps
                    clear hfin hps
                    go_wp2_with fail
                    exact ⟨⟨4, emp, _, _, _, _, _, HFIN.out, HPS.out.1⟩, HPS.out.2⟩
                  by_cases hh3 : (v2) < (v1)
                  · try exact absurd hh3 (Int.lt_irrefl _)
                    all_goals
                      rw [if_pos (.inr (.inr (.inr hh3)))] at hte
                      have HTN := Lib.hid hte
                      clear hte
                      go_wp2_with fail
                      refine (HN2.out).mono ?_
                      rintro e9 w8 ⟨rfl, hA, hO⟩
                      have HA8 := Lib.hid hA; have H8 := Lib.hid ((Hc2).out.next HLT.out HB3.out hO)
                      have z1 : w8.cell? ⟨g, 1, none⟩ = some (.int .i64 ri) := HA8.out.cell 1 _ rfl
                      clear hA hO
                      go_wp2_with fail
                      refine (failO g s _ o x _ 2 _ HA8.out).mono ?_
                      rintro e9 w9 ⟨rfl, hA, hO⟩
                      have HA9 := Lib.hid hA; have H9 := Lib.hid (H8.out.next HLT.out HB3.out hO)
                      clear hA hO z1
                      have k0 : w9.cell? ⟨w3.heap.size, 0, none⟩ = some (.int .i64 op) := H9.out.node.cell 0 _ rfl
                      have k1 : w9.cell? ⟨w3.heap.size, 1, none⟩ = some (.int .u64 ((wd f 0 : Nat) : Int)) := H9.out.node.cell 1 _ rfl
                      have k2 : w9.cell? ⟨w3.heap.size, 2, none⟩ = some (.int .u64 ((wd f 1 : Nat) : Int)) := H9.out.node.cell 2 _ rfl
                      have k3 : w9.cell? ⟨w3.heap.size, 3, none⟩ = some (.int .u64 ((wd f 2 : Nat) : Int)) := H9.out.node.cell 3 _ rfl
                      have k4 : w9.cell? ⟨w3.heap.size, 4, none⟩ = some (.int .u64 ((wd f 3 : Nat) : Int)) := H9.out.node.cell 4 _ rfl
                      have k5 : w9.cell? ⟨w3.heap.size, 5, none⟩ = some (.int .i64 mn) := H9.out.node.cell 5 _ rfl
                      have k6 : w9.cell? ⟨w3.heap.size, 6, none⟩ = some (.int .i64 mx) := H9.out.node.cell 6 _ rfl
                      have k7 : w9.cell? ⟨w3.heap.size, 7, none⟩ = some (.slice ka kn kc) := H9.out.node.cell 7 _ rfl
                      have fz0 := H9.out.node.frozen 0
                      have fz1 := H9.out.node.frozen 1
                      have fz2 := H9.out.node.frozen 2
                      have fz3 := H9.out.node.frozen 3
                      have fz4 := H9.out.node.frozen 4
                      have fz5 := H9.out.node.frozen 5
                      have fz6 := H9.out.node.frozen 6
                      have fz7 := H9.out.node.frozen 7
                      have hlw : w3.heap.size < w9.heap.size := H9.out.node.lt
                      have hnw : ¬ w3.heap.size = w9.heap.size := by omega
                      have hfin := H9.out.step HLT.out HB3.out (v1) (v2)
                      have hps := PS.put (x := x) (p := p) (t := repT (v1) (v2) (.node op f mn mx kids)) (.inr ⟨2, q2, _, by decide, HA9.out, HIN.out _ (P.timesNo HC.out HTN.out)⟩) HLR.out HQ.out (.cells (nodeC op f mn mx (.slice ka kn kc)) 29) w3.heap.size HNE.out 4 emp (v1) (v2) (.slice (some ⟨w9.heap.size, 0, none⟩) 1 1)
                      unfold putN at hfin hps
                      simp only [wd_emp] at hfin hps
                      have HFIN := Lib.hid hfin; have HPS := Lib.hid hps
                      clear hfin hps
                      go_wp2_with fail
                      exact ⟨⟨4, emp, _, _, _, _, _, HFIN.out, HPS.out.1⟩, HPS.out.2⟩
                  · rw [if_neg (by rintro (h | h | h | h) <;> first | exact h rfl | omega)] at hte
                    have HTO := Lib.hid hte
                    clear hte
                    go_wp2_with fail
                    refine (HN2.out).mono ?_
                    rintro e9 w8 ⟨rfl, hA, hO⟩
                    have H8 := Lib.hid ((Hc2).out.next HLT.out HB3.out hO)
                    rw [HRI.out] at hA
                    have HA8 := Lib.hid hA
                    clear hA hO
                    have k0 : w8.cell? ⟨w3.heap.size, 0, none⟩ = some (.int .i64 op) := H8.out.node.cell 0 _ rfl
                    have k1 : w8.cell? ⟨w3.heap.size, 1, none⟩ = some (.int .u64 ((wd f 0 : Nat) : Int)) := H8.out.node.cell 1 _ rfl
                    have k2 : w8.cell? ⟨w3.heap.size, 2, none⟩ = some (.int .u64 ((wd f 1 : Nat) : Int)) := H8.out.node.cell 2 _ rfl
                    have k3 : w8.cell? ⟨w3.heap.size, 3, none⟩ = some (.int .u64 ((wd f 2 : Nat) : Int)) := H8.out.node.cell 3 _ rfl
                    have k4 : w8.cell? ⟨w3.heap.size, 4, none⟩ = some (.int .u64 ((wd f 3 : Nat) : Int)) := H8.out.node.cell 4 _ rfl
                    have k5 : w8.cell? ⟨w3.heap.size, 5, none⟩ = some (.int .i64 mn) := H8.out.node.cell 5 _ rfl
                    have k6 : w8.cell? ⟨w3.heap.size, 6, none⟩ = some (.int .i64 mx) := H8.out.node.cell 6 _ rfl
                    have k7 : w8.cell? ⟨w3.heap.size, 7, none⟩ = some (.slice ka kn kc) := H8.out.node.cell 7 _ rfl
                    have fz0 := H8.out.node.frozen 0
                    have fz1 := H8.out.node.frozen 1
                    have fz2 := H8.out.node.frozen 2
                    have fz3 := H8.out.node.frozen 3
                    have fz4 := H8.out.node.frozen 4
                    have fz5 := H8.out.node.frozen 5
                    have fz6 := H8.out.node.frozen 6
                    have fz7 := H8.out.node.frozen 7
                    have hlw : w3.heap.size < w8.heap.size := H8.out.node.lt
                    have hnw : ¬ w3.heap.size = w8.heap.size := by omega
                    have hfin := H8.out.step HLT.out HB3.out (v1) (v2)
                    have hps := PS.put (x := x) (p := p) (t := repT (v1) (v2) (.node op f mn mx kids)) (.inl ⟨q2 + 1, HA8.out, by have := (HQ2.out).1; omega, HLT2.out, fun r hr => HIN.out _ (P.times HC.out HTO.out hr)⟩) HLR.out HQ.out (.cells (nodeC op f mn mx (.slice ka kn kc)) 29) w3.heap.size HNE.out 4 emp (v1) (v2) (.slice (some ⟨w8.heap.size, 0, none⟩) 1 1)
                    unfold putN at hfin hps
                    simp only [wd_emp] at hfin hps
                    have HFIN := Lib.hid hfin; have HPS := Lib.hid hps
                    clear hfin hps
                    go_wp2_with fail
                    exact ⟨⟨4, emp, _, _, _, _, _, HFIN.out, HPS.out.1⟩, HPS.out.2⟩
                · rw [if_pos (.inl h125)] at hte
                  have e125 : (d == 125) = false := by rw [beq_eq_false_iff_ne]; exact h125
                  have HTN := Lib.hid hte
                  clear hte
                  go_wp2_with fail
                  refine (HN2.out).mono ?_
                  rintro e9 w8 ⟨rfl, hA, hO⟩
                  have HA8 := Lib.hid hA; have H8 := Lib.hid ((Hc2).out.next HLT.out HB3.out hO)
                  have z1 : w8.cell? ⟨g, 1, none⟩ = some (.int .i64 ri) := HA8.out.cell 1 _ rfl
                  clear hA hO
                  go_wp2_with fail
                  refine (failO g s _ o x _ 2 _ HA8.out).mono ?_
                  rintro e9 w9 ⟨rfl, hA, hO⟩
                  have HA9 := Lib.hid hA; have H9 := Lib.hid (H8.out.next HLT.out HB3.out hO)
                  clear hA hO z1
                  have k0 : w9.cell? ⟨w3.heap.size, 0, none⟩ = some (.int .i64 op) := H9.out.node.cell 0 _ rfl
                  have k1 : w9.cell? ⟨w3.heap.size, 1, none⟩ = some (.int .u64 ((wd f 0 : Nat) : Int)) := H9.out.node.cell 1 _ rfl
                  have k2 : w9.cell? ⟨w3.heap.size, 2, none⟩ = some (.int .u64 ((wd f 1 : Nat) : Int)) := H9.out.node.cell 2 _ rfl
                  have k3 : w9.cell? ⟨w3.heap.size, 3, none⟩ = some (.int .u64 ((wd f 2 : Nat) : Int)) := H9.out.node.cell 3 _ rfl
                  have k4 : w9.cell? ⟨w3.heap.size, 4, none⟩ = some (.int .u64 ((wd f 3 : Nat) : Int)) := H9.out.node.cell 4 _ rfl
                  have k5 : w9.cell? ⟨w3.heap.size, 5, none⟩ = some (.int .i64 mn) := H9.out.node.cell 5 _ rfl
                  have k6 : w9.cell? ⟨w3.heap.size, 6, none⟩ = some (.int .i64 mx) := H9.out.node.cell 6 _ rfl
                  have k7 : w9.cell? ⟨w3.heap.size, 7, none⟩ = some (.slice ka kn kc) := H9.out.node.cell 7 _ rfl
                  have fz0 := H9.out.node.frozen 0
                  have fz1 := H9.out.node.frozen 1
                  have fz2 := H9.out.node.frozen 2
                  have fz3 := H9.out.node.frozen 3
                  have fz4 := H9.out.node.frozen 4
                  have fz5 := H9.out.node.frozen 5
                  have fz6 := H9.out.node.frozen 6
                  have fz7 := H9.out.node.frozen 7
                  have hlw : w3.heap.size < w9.heap.size := H9.out.node.lt
                  have hnw : ¬ w3.heap.size = w9.heap.size := by omega
                  have hfin := H9.out.step HLT.out HB3.out (v1) (v2)
                  have hps := PS.put (x := x) (p := p) (t := repT (v1) (v2) (.node op f mn mx kids)) (.inr ⟨2, q2, _, by decide, HA9.out, HIN.out _ (P.timesNo HC.out HTN.out)⟩) HLR.out HQ.out (.cells (nodeC op f mn mx (.slice ka kn kc)) 29) w3.heap.size HNE.out 4 emp (v1) (v2) (.slice (some ⟨w9.heap.size, 0, none⟩) 1 1)
                  unfold putN at hfin hps
                  simp only [wd_emp] at hfin hps
                  have HFIN := Lib.hid hfin; have HPS := Lib.hid hps
                  clear hfin hps
                  go_wp2_with fail
                  exact ⟨⟨4, emp, _, _, _, _, _, HFIN.out, HPS.out.1⟩, HPS.out.2⟩
          · rw [if_neg h44] at hte0
            have HTE := Lib.hid hte0
            have e44 : (ch s q1 == 44) = false := by rw [beq_eq_false_iff_ne]; exact h44
            have HQ2 : Hid (q + 1 ≤ q1 ∧ q1 ≤ s.size) := Lib.hid ⟨by have := HQ1.out.1; omega, HQ1.out.2⟩
            clear hte0
            obtain ⟨d1, hd1⟩ : ∃ d1, d1 = ch s q1 := ⟨_, rfl⟩
            rw [← hd1] at HPK1 e44 h44
            clear hd1
            go_wp2_with fail
            refine (HPK1.out).mono ?_
            rintro e9 wc ⟨rfl, hb⟩
            have HS2 := Lib.hid (HS.out.below hb); have Hc2 := Lib.hid (H7.out.below HLT.out HB3.out hb)
            clear hb HPK1
            have hq2 : q1 ≤ s.size := (HQ2.out).2
            by_cases hd0 : ch s (q1) < 0
            · have HN2 := Lib.hid (next_no g s (q1) o x _ (HS2).out hq2 hd0)
              have HTN : Hid (timesF s (q + 1) = .no 2 (q1)) := Lib.hid (by rw [(HTE).out, timesE, if_pos (.inl (by omega))])
              clear hd0 hq2
              go_wp2_with fail
              refine (HN2.out).mono ?_
              rintro e9 w8 ⟨rfl, hA, hO⟩
              have HA8 := Lib.hid hA; have H8 := Lib.hid ((Hc2).out.next HLT.out HB3.out hO)
              have z1 : w8.cell? ⟨g, 1, none⟩ = some (.int .i64 ((q1 : Nat) : Int)) := HA8.out.cell 1 _ rfl
              clear hA hO
              go_wp2_with fail
              refine (fail_no g s _ o 2 _ _ 2 _ HA8.out (by decide)).mono ?_
              rintro e9 w9 ⟨rfl, rfl⟩
              have k0 : w9.cell? ⟨w3.heap.size, 0, none⟩ = some (.int .i64 op) := H8.out.node.cell 0 _ rfl
              have k1 : w9.cell? ⟨w3.heap.size, 1, none⟩ = some (.int .u64 ((wd f 0 : Nat) : Int)) := H8.out.node.cell 1 _ rfl
              have k2 : w9.cell? ⟨w3.heap.size, 2, none⟩ = some (.int .u64 ((wd f 1 : Nat) : Int)) := H8.out.node.cell 2 _ rfl
              have k3 : w9.cell? ⟨w3.heap.size, 3, none⟩ = some (.int .u64 ((wd f 2 : Nat) : Int)) := H8.out.node.cell 3 _ rfl
              have k4 : w9.cell? ⟨w3.heap.size, 4, none⟩ = some (.int .u64 ((wd f 3 : Nat) : Int)) := H8.out.node.cell 4 _ rfl
              have k5 : w9.cell? ⟨w3.heap.size, 5, none⟩ = some (.int .i64 mn) := H8.out.node.cell 5 _ rfl
              have k6 : w9.cell? ⟨w3.heap.size, 6, none⟩ = some (.int .i64 mx) := H8.out.node.cell 6 _ rfl
              have k7 : w9.cell? ⟨w3.heap.size, 7, none⟩ = some (.slice ka kn kc) := H8.out.node.cell 7 _ rfl
              have fz0 := H8.out.node.frozen 0
              have fz1 := H8.out.node.frozen 1
              have fz2 := H8.out.node.frozen 2
              have fz3 := H8.out.node.frozen 3
              have fz4 := H8.out.node.frozen 4
              have fz5 := H8.out.node.frozen 5
              have fz6 := H8.out.node.frozen 6
              have fz7 := H8.out.node.frozen 7
              have hlw : w3.heap.size < w9.heap.size := H8.out.node.lt
              have hnw : ¬ w3.heap.size = w9.heap.size := by omega
              have hfin := H8.out.step HLT.out HB3.out (v1) (v1)
              have hps := PS.put (x := x) (p := p) (t := repT (v1) (v1) (.node op f mn mx kids)) (.inr ⟨2, q1, _, by decide, HA8.out, HIN.out _ (P.timesNo HC.out HTN.out)⟩) HLR.out HQ.out (.cells (nodeC op f mn mx (.slice ka kn kc)) 29) w3.heap.size HNE.out 4 emp (v1) (v1) (.slice (some ⟨w9.heap.size, 0, none⟩) 1 1)
              unfold putN at hfin hps
              simp only [wd_emp] at hfin hps
              have HFIN := Lib.hid hfin; have HPS := Lib.hid hps
              clear hfin hps
              go_wp2_with fail
              exact ⟨⟨4, emp, _, _, _, _, _, HFIN.out, HPS.out.1⟩, HPS.out.2⟩
            · have hlt2 := ch_ge (s := s) (p := q1) (by omega)
              have HN2 := Lib.hid (next_ch g s (q1) o x _ (HS2).out (by omega) (by have := HM.out; omega))
              have hte : timesF s (q + 1) = timesE s (v1) (.ok (v1) (q1)) := (HTE).out
              rw [timesE] at hte
              obtain ⟨ri, hri⟩ : ∃ ri : Int, ri = ((q1 + 1 : Nat) : Int) := ⟨_, rfl⟩
              have hri2 : ri - 1 = ((q1 : Nat) : Int) := by omega
              have hri3 : 0 ≤ ri - 1 := by omega
              have hri4 : ri < 10000 := by have := HM.out; omega
              rw [← hri] at HN2
              have HRI := Lib.hid hri
              have HLT2 := Lib.hid hlt2
              generalize ch s (q1) = d at *
              clear hri hlt2 hd0 hq2
              by_cases h125 : d = 125
              · subst h125
                by_cases hh1 : (v1) < 1
                · rw [if_pos (.inr (.inl hh1))] at hte
                  have HTN := Lib.hid hte
                  clear hte
                  go_wp2_with fail
                  refine (HN2.out).mono ?_
                  rintro e9 w8 ⟨rfl, hA, hO⟩
                  have HA8 := Lib.hid hA; have H8 := Lib.hid ((Hc2).out.next HLT.out HB3.out hO)
                  have z1 : w8.cell? ⟨g, 1, none⟩ = some (.int .i64 ri) := HA8.out.cell 1 _ rfl
                  clear hA hO
                  go_wp2_with fail
                  refine (failO g s _ o x _ 2 _ HA8.out).mono ?_
                  rintro e9 w9 ⟨rfl, hA, hO⟩
                  have HA9 := Lib.hid hA; have H9 := Lib.hid (H8.out.next HLT.out HB3.out hO)
                  clear hA hO z1
                  have k0 : w9.cell? ⟨w3.heap.size, 0, none⟩ = some (.int .i64 op) := H9.out.node.cell 0 _ rfl
                  have k1 : w9.cell? ⟨w3.heap.size, 1, none⟩ = some (.int .u64 ((wd f 0 : Nat) : Int)) := H9.out.node.cell 1 _ rfl
                  have k2 : w9.cell? ⟨w3.heap.size, 2, none⟩ = some (.int .u64 ((wd f 1 : Nat) : Int)) := H9.out.node.cell 2 _ rfl
                  have k3 : w9.cell? ⟨w3.heap.size, 3, none⟩ = some (.int .u64 ((wd f 2 : Nat) : Int)) := H9.out.node.cell 3 _ rfl
                  have k4 : w9.cell? ⟨w3.heap.size, 4, none⟩ = some (.int .u64 ((wd f 3 : Nat) : Int)) := H9.out.node.cell 4 _ rfl
                  have k5 : w9.cell? ⟨w3.heap.size, 5, none⟩ = some (.int .i64 mn) := H9.out.node.cell 5 _ rfl
                  have k6 : w9.cell? ⟨w3.heap.size, 6, none⟩ = some (.int .i64 mx) := H9.out.node.cell 6 _ rfl
                  have k7 : w9.cell? ⟨w3.heap.size, 7, none⟩ = some (.slice ka kn kc) := H9.out.node.cell 7 _ rfl
                  have fz0 := H9.out.node.frozen 0
                  have fz1 := H9.out.node.frozen 1
                  have fz2 := H9.out.node.frozen 2
                  have fz3 := H9.out.node.frozen 3
                  have fz4 := H9.out.node.frozen 4
                  have fz5 := H9.out.node.frozen 5
                  have fz6 := H9.out.node.frozen 6
                  have fz7 := H9.out.node.frozen 7
                  have hlw : w3.heap.size < w9.heap.size := H9.out.node.lt
                  have hnw : ¬ w3.heap.size = w9.heap.size := by omega
                  have hfin := H9.out.step HLT.out HB3.out (v1) (v1)
                  have hps := PS.put (x := x) (p := p) (t := repT (v1) (v1) (.node op f mn mx kids)) (.inr ⟨2, q1, _, by decide, HA9.out, HIN.out _ (P.timesNo HC.out HTN.out)⟩) HLR.out HQ.out (.cells (nodeC op f mn mx (.slice ka kn kc)) 29) w3.heap.size HNE.out 4 emp (v1) (v1) (.slice (some ⟨w9.heap.size, 0, none⟩) 1 1)
                  unfold putN at hfin hps
                  simp only [wd_emp] at hfin hps
                  have HFIN := Lib.hid hfin; have HPS := Lib.hid hps
                  clear hfin hps
                  go_wp2_with fail
                  exact ⟨⟨4, emp, _, _, _, _, _, HFIN.out, HPS.out.1⟩, HPS.out.2⟩
                by_cases hh2 : 32 < (v1)
                · rw [if_pos (.inr (.inr (.inl hh2)))] at hte
                  have HTN := Lib.hid hte
                  clear hte
                  go_wp2_with fail
                  refine (HN2.out).mono ?_
                  rintro e9 w8 ⟨rfl, hA, hO⟩
                  have HA8 := Lib.hid hA; have H8 := Lib.hid ((Hc2).out.next HLT.out HB3.out hO)
                  have z1 : w8.cell? ⟨g, 1, none⟩ = some (.int .i64 ri) := HA8.out.cell 1 _ rfl
                  clear hA hO
                  go_wp2_with fail
                  refine (failO g s _ o x _ 2 _ HA8.out).mono ?_
                  rintro e9 w9 ⟨rfl, hA, hO⟩
                  have HA9 := Lib.hid hA; have H9 := Lib.hid (H8.out.next HLT.out HB3.out hO)
                  clear hA hO z1
                  have k0 : w9.cell? ⟨w3.heap.size, 0, none⟩ = some (.int .i64 op) := H9.out.node.cell 0 _ rfl
                  have k1 : w9.cell? ⟨w3.heap.size, 1, none⟩ = some (.int .u64 ((wd f 0 : Nat) : Int)) := H9.out.node.cell 1 _ rfl
                  have k2 : w9.cell? ⟨w3.heap.size, 2, none⟩ = some (.int .u64 ((wd f 1 : Nat) : Int)) := H9.out.node.cell 2 _ rfl
                  have k3 : w9.cell? ⟨w3.heap.size, 3, none⟩ = some (.int .u64 ((wd f 2 : Nat) : Int)) := H9.out.node.cell 3 _ rfl
                  have k4 : w9.cell? ⟨w3.heap.size, 4, none⟩ = some (.int .u64 ((wd f 3 : Nat) : Int)) := H9.out.node.cell 4 _ rfl
                  have k5 : w9.cell? ⟨w3.heap.size, 5, none⟩ = some (.int .i64 mn) := H9.out.node.cell 5 _ rfl
                  have k6 : w9.cell? ⟨w3.heap.size, 6, none⟩ = some (.int .i64 mx) := H9.out.node.cell 6 _ rfl
                  have k7 : w9.cell? ⟨w3.heap.size, 7, none⟩ = some (.slice ka kn kc) := H9.out.node.cell 7 _ rfl
                  have fz0 := H9.out.node.frozen 0
                  have fz1 := H9.out.node.frozen 1
                  have fz2 := H9.out.node.frozen 2
                  have fz3 := H9.out.node.frozen 3
                  have fz4 := H9.out.node.frozen 4
                  have fz5 := H9.out.node.frozen 5
                  have fz6 := H9.out.node.frozen 6
                  have fz7 := H9.out.node.frozen 7
                  have hlw : w3.heap.size < w9.heap.size := H9.out.node.lt
                  have hnw : ¬ w3.heap.size = w9.heap.size := by omega
                  have hfin := H9.out.step HLT.out HB3.out (v1) (v1)
                  have hps := PS.put (x := x) (p := p) (t := repT (v1) (v1) (.node op f mn mx kids)) (.inr ⟨2, q1, _, by decide, HA9.out, HIN.out _ (P.timesNo HC.out HTN.out)⟩) HLR.out HQ.out (.cells (nodeC op f mn mx (.slice ka kn kc)) 29) w3.heap.size HNE.out 4 emp (v1) (v1) (.slice (some ⟨w9.heap.size, 0, none⟩) 1 1)
                  unfold putN at hfin hps
                  simp only [wd_emp] at hfin hps
                  have HFIN := Lib.hid hfin; have HPS := Lib.hid hps
                  clear hfin hps
                  go_wp2_with fail
                  exact ⟨⟨4, emp, _, _, _, _, _, HFIN.out, HPS.out.1⟩, HPS.out.2⟩
                by_cases hh3 : (v1) < (v1)
                · try exact absurd hh3 (Int.lt_irrefl _)
                  all_goals
                    rw [if_pos (.inr (.inr (.inr hh3)))] at hte
                    have HTN := Lib.hid hte
                    clear hte
                    go_wp2_with fail
                    refine (HN2.out).mono ?_
                    rintro e9 w8 ⟨rfl, hA, hO⟩
                    have HA8 := Lib.hid hA; have H8 := Lib.hid ((Hc2).out.next HLT.out HB3.out hO)
                    have z1 : w8.cell? ⟨g, 1, none⟩ = some (.int .i64 ri) := HA8.out.cell 1 _ rfl
                    clear hA hO
                    go_wp2_with fail
                    refine (failO g s _ o x _ 2 _ HA8.out).mono ?_
                    rintro e9 w9 ⟨rfl, hA, hO⟩
                    have HA9 := Lib.hid hA; have H9 := Lib.hid (H8.out.next HLT.out HB3.out hO)
                    clear hA hO z1
                    have k0 : w9.cell? ⟨w3.heap.size, 0, none⟩ = some (.int .i64 op) := H9.out.node.cell 0 _ rfl
                    have k1 : w9.cell? ⟨w3.heap.size, 1, none⟩ = some (.int .u64 ((wd f 0 : Nat) : Int)) := H9.out.node.cell 1 _ rfl
                    have k2 : w9.cell? ⟨w3.heap.size, 2, none⟩ = some (.int .u64 ((wd f 1 : Nat) : Int)) := H9.out.node.cell 2 _ rfl
                    have k3 : w9.cell? ⟨w3.heap.size, 3, none⟩ = some (.int .u64 ((wd f 2 : Nat) : Int)) := H9.out.node.cell 3 _ rfl
                    have k4 : w9.cell? ⟨w3.heap.size, 4, none⟩ = some (.int .u64 ((wd f 3 : Nat) : Int)) := H9.out.node.cell 4 _ rfl
                    have k5 : w9.cell? ⟨w3.heap.size, 5, none⟩ = some (.int .i64 mn) := H9.out.node.cell 5 _ rfl
                    have k6 : w9.cell? ⟨w3.heap.size, 6, none⟩ = some (.int .i64 mx) := H9.out.node.cell 6 _ rfl
                    have k7 : w9.cell? ⟨w3.heap.size, 7, none⟩ = some (.slice ka kn kc) := H9.out.node.cell 7 _ rfl
                    have fz0 := H9.out.node.frozen 0
                    have fz1 := H9.out.node.frozen 1
                    have fz2 := H9.out.node.frozen 2
                    have fz3 := H9.out.node.frozen 3
                    have fz4 := H9.out.node.frozen 4
                    have fz5 := H9.out.node.frozen 5
                    have fz6 := H9.out.node.frozen 6
                    have fz7 := H9.out.node.frozen 7
                    have hlw : w3.heap.size < w9.heap.size := H9.out.node.lt
                    have hnw : ¬ w3.heap.size = w9.heap.size := by omega
                    have hfin := H9.out.step HLT.out HB3.out (v1) (v1)
                    have hps := PS.put (x := x) (p := p) (t := repT (v1) (v1) (.node op f mn mx kids)) (.inr ⟨2, q1, _, by decide, HA9.out, HIN.out _ (P.timesNo HC.out HTN.out)⟩) HLR.out HQ.out (.cells (nodeC op f mn mx (.slice ka kn kc)) 29) w3.heap.size HNE.out 4 emp (v1) (v1) (.slice (some ⟨w9.heap.size, 0, none⟩) 1 1)
                    unfold putN at hfin hps
                    simp only [wd_emp] at hfin hps
                    have HFIN := Lib.hid hfin; have HPS := Lib.hid hps
                    clear hfin hps
                    go_wp2_with fail
                    exact ⟨⟨4, emp, _, _, _, _, _, HFIN.out, HPS.out.1⟩, HPS.out.2⟩
                · rw [if_neg (by rintro (h | h | h | h) <;> first | exact h rfl | omega)] at hte
                  have HTO := Lib.hid hte
                  clear hte
                  go_wp2_with fail
                  refine (HN2.out).mono ?_
                  rintro e9 w8 ⟨rfl, hA, hO⟩
                  have H8 := Lib.hid ((Hc2).out.next HLT.out HB3.out hO)
                  rw [HRI.out] at hA
                  have HA8 := Lib.hid hA
                  clear hA hO
                  have k0 : w8.cell? ⟨w3.heap.size, 0, none⟩ = some (.int .i64 op) := H8.out.node.cell 0 _ rfl
                  have k1 : w8.cell? ⟨w3.heap.size, 1, none⟩ = some (.int .u64 ((wd f 0 : Nat) : Int)) := H8.out.node.cell 1 _ rfl
                  have k2 : w8.cell? ⟨w3.heap.size, 2, none⟩ = some (.int .u64 ((wd f 1 : Nat) : Int)) := H8.out.node.cell 2 _ rfl
                  have k3 : w8.cell? ⟨w3.heap.size, 3, none⟩ = some (.int .u64 ((wd f 2 : Nat) : Int)) := H8.out.node.cell 3 _ rfl
                  have k4 : w8.cell? ⟨w3.heap.size, 4, none⟩ = some (.int .u64 ((wd f 3 : Nat) : Int)) := H8.out.node.cell 4 _ rfl
                  have k5 : w8.cell? ⟨w3.heap.size, 5, none⟩ = some (.int .i64 mn) := H8.out.node.cell 5 _ rfl
                  have k6 : w8.cell? ⟨w3.heap.size, 6, none⟩ = some (.int .i64 mx) := H8.out.node.cell 6 _ rfl
                  have k7 : w8.cell? ⟨w3.heap.size, 7, none⟩ = some (.slice ka kn kc) := H8.out.node.cell 7 _ rfl
                  have fz0 := H8.out.node.frozen 0
                  have fz1 := H8.out.node.frozen 1
                  have fz2 := H8.out.node.frozen 2
                  have fz3 := H8.out.node.frozen 3
                  have fz4 := H8.out.node.frozen 4
                  have fz5 := H8.out.node.frozen 5
                  have fz6 := H8.out.node.frozen 6
                  have fz7 := H8.out.node.frozen 7
                  have hlw : w3.heap.size < w8.heap.size := H8.out.node.lt
                  have hnw : ¬ w3.heap.size = w8.heap.size := by omega
                  have hfin := H8.out.step HLT.out HB3.out (v1) (v1)
                  have hps := PS.put (x := x) (p := p) (t := repT (v1) (v1) (.node op f mn mx kids)) (.inl ⟨q1 + 1, HA8.out, by have := (HQ2.out).1; omega, HLT2.out, fun r hr => HIN.out _ (P.times HC.out HTO.out hr)⟩) HLR.out HQ.out (.cells (nodeC op f mn mx (.slice ka kn kc)) 29) w3.heap.size HNE.out 4 emp (v1) (v1) (.slice (some ⟨w8.heap.size, 0, none⟩) 1 1)
                  unfold putN at hfin hps
                  simp only [wd_emp] at hfin hps
                  have HFIN := Lib.hid hfin; have HPS := Lib.hid hps
                  clear hfin hps
                  go_wp2_with fail
                  exact ⟨⟨4, emp, _, _, _, _, _, HFIN.out, HPS.out.1⟩, HPS.out.2⟩
              · rw [if_pos (.inl h125)] at hte
                have e125 : (d == 125) = false := by rw [beq_eq_false_iff_ne]; exact h125
                have HTN := Lib.hid hte
                clear hte
                go_wp2_with fail
                refine (HN2.out).mono ?_
                rintro e9 w8 ⟨rfl, hA, hO⟩
                have HA8 := Lib.hid hA; have H8 := Lib.hid ((Hc2).out.next HLT.out HB3.out hO)
                have z1 : w8.cell? ⟨g, 1, none⟩ = some (.int .i64 ri) := HA8.out.cell 1 _ rfl
                clear hA hO
                go_wp2_with fail
                refine (failO g s _ o x _ 2 _ HA8.out).mono ?_
                rintro e9 w9 ⟨rfl, hA, hO⟩
                have HA9 := Lib.hid hA; have H9 := Lib.hid (H8.out.next HLT.out HB3.out hO)
                clear hA hO z1
                have k0 : w9.cell? ⟨w3.heap.size, 0, none⟩ = some (.int .i64 op) := H9.out.node.cell 0 _ rfl
                have k1 : w9.cell? ⟨w3.heap.size, 1, none⟩ = some (.int .u64 ((wd f 0 : Nat) : Int)) := H9.out.node.cell 1 _ rfl
                have k2 : w9.cell? ⟨w3.heap.size, 2, none⟩ = some (.int .u64 ((wd f 1 : Nat) : Int)) := H9.out.node.cell 2 _ rfl
                have k3 : w9.cell? ⟨w3.heap.size, 3, none⟩ = some (.int .u64 ((wd f 2 : Nat) : Int)) := H9.out.node.cell 3 _ rfl
                have k4 : w9.cell? ⟨w3.heap.size, 4, none⟩ = some (.int .u64 ((wd f 3 : Nat) : Int)) := H9.out.node.cell 4 _ rfl
                have k5 : w9.cell? ⟨w3.heap.size, 5, none⟩ = some (.int .i64 mn) := H9.out.node.cell 5 _ rfl
                have k6 : w9.cell? ⟨w3.heap.size, 6, none⟩ = some (.int .i64 mx) := H9.out.node.cell 6 _ rfl
                have k7 : w9.cell? ⟨w3.heap.size, 7, none⟩ = some (.slice ka kn kc) := H9.out.node.cell 7 _ rfl
                have fz0 := H9.out.node.frozen 0
                have fz1 := H9.out.node.frozen 1
                have fz2 := H9.out.node.frozen 2
                have fz3 := H9.out.node.frozen 3
                have fz4 := H9.out.node.frozen 4
                have fz5 := H9.out.node.frozen 5
                have fz6 := H9.out.node.frozen 6
                have fz7 := H9.out.node.frozen 7
                have hlw : w3.heap.size < w9.heap.size := H9.out.node.lt
                have hnw : ¬ w3.heap.size = w9.heap.size := by omega
                have hfin := H9.out.step HLT.out HB3.out (v1) (v1)
                have hps := PS.put (x := x) (p := p) (t := repT (v1) (v1) (.node op f mn mx kids)) (.inr ⟨2, q1, _, by decide, HA9.out, HIN.out _ (P.timesNo HC.out HTN.out)⟩) HLR.out HQ.out (.cells (nodeC op f mn mx (.slice ka kn kc)) 29) w3.heap.size HNE.out 4 emp (v1) (v1) (.slice (some ⟨w9.heap.size, 0, none⟩) 1 1)
                unfold putN at hfin hps
                simp only [wd_emp] at hfin hps
                have HFIN := Lib.hid hfin; have HPS := Lib.hid hps
                clear hfin hps
                go_wp2_with fail
                exact ⟨⟨4, emp, _, _, _, _, _, HFIN.out, HPS.out.1⟩, HPS.out.2⟩
      · have HPP : Hid (P s .piece o p (.ok (.node op f mn mx kids) q)) := Lib.hid (HIN.out _ (P.pieceEnd h63 h123))
        have e1 : (ch s q == 63) = false := by rw [beq_eq_false_iff_ne]; exact h63
        have e2 : (ch s q == 123) = false := by rw [beq_eq_false_iff_ne]; exact h123
        generalize ch s q = c at *
        clear h63 h123
        go_wp2_with fail
        refine (HPK.out _ HA.out).mono ?_
        rintro e9 w4 ⟨rfl, hb⟩
        have HA4 := Lib.hid (HA.out.below hb); have H4 := Lib.hid (HH.out.below HLT.out HB3.out hb)
        clear hb
        go_wp2_with fail
        refine (HPK.out _ HA4.out).mono ?_
        rintro e9 w5 ⟨rfl, hb⟩
        have HA5 := Lib.hid (HA4.out.below hb); have H5 := Lib.hid (H4.out.below HLT.out HB3.out hb)
        clear hb
        have k0 : w5.cell? ⟨w3.heap.size, 0, none⟩ = some (.int .i64 op) := H5.out.node.cell 0 _ rfl
        have k1 : w5.cell? ⟨w3.heap.size, 1, none⟩ = some (.int .u64 ((wd f 0 : Nat) : Int)) := H5.out.node.cell 1 _ rfl
        have k2 : w5.cell? ⟨w3.heap.size, 2, none⟩ = some (.int .u64 ((wd f 1 : Nat) : Int)) := H5.out.node.cell 2 _ rfl
        have k3 : w5.cell? ⟨w3.heap.size, 3, none⟩ = some (.int .u64 ((wd f 2 : Nat) : Int)) := H5.out.node.cell 3 _ rfl
        have k4 : w5.cell? ⟨w3.heap.size, 4, none⟩ = some (.int .u64 ((wd f 3 : Nat) : Int)) := H5.out.node.cell 4 _ rfl
        have k5 : w5.cell? ⟨w3.heap.size, 5, none⟩ = some (.int .i64 mn) := H5.out.node.cell 5 _ rfl
        have k6 : w5.cell? ⟨w3.heap.size, 6, none⟩ = some (.int .i64 mx) := H5.out.node.cell 6 _ rfl
        have k7 : w5.cell? ⟨w3.heap.size, 7, none⟩ = some (.slice ka kn kc) := H5.out.node.cell 7 _ rfl
        have d0 : w5.cell? ⟨w.heap.size, 0, none⟩ = some (.int .i64 0) := (H5.out.cell).cell 0 _ rfl
        have d1 : w5.cell? ⟨w.heap.size, 1, none⟩ = some (.int .u64 0) := (H5.out.cell).cell 1 _ rfl
        have d2 : w5.cell? ⟨w.heap.size, 2, none⟩ = some (.int .u64 0) := (H5.out.cell).cell 2 _ rfl
        have d3 : w5.cell? ⟨w.heap.size, 3, none⟩ = some (.int .u64 0) := (H5.out.cell).cell 3 _ rfl
        have d4 : w5.cell? ⟨w.heap.size, 4, none⟩ = some (.int .u64 0) := (H5.out.cell).cell 4 _ rfl
        have d5 : w5.cell? ⟨w.heap.size, 5, none⟩ = some (.int .i64 0) := (H5.out.cell).cell 5 _ rfl
        have d6 : w5.cell? ⟨w.heap.size, 6, none⟩ = some (.int .i64 0) := (H5.out.cell).cell 6 _ rfl
        have d7 : w5.cell? ⟨w.heap.size, 7, none⟩ = some (.slice none 0 0) := (H5.out.cell).cell 7 _ rfl
        have f0 := (H5.out.cell).frozen 0; have f1 := (H5.out.cell).frozen 1; have f2 := (H5.out.cell).frozen 2; have f3 := (H5.out.cell).frozen 3
        have f4 := (H5.out.cell).frozen 4; have f5 := (H5.out.cell).frozen 5; have f6 := (H5.out.cell).frozen 6; have f7 := (H5.out.cell).frozen 7
        have HSZ := Lib.hid (show w.heap.size < w5.heap.size from H5.out.cell.lt)
        have hn1 : w3.heap.size ≠ w.heap.size := by have := HB3.out; omega
        have hn2 : w.heap.size ≠ w3.heap.size := by have := HB3.out; omega
        go_wp2_with fail
        refine bodyPost_ret (v := nodeV (.node op f mn mx kids) (.slice ka kn kc)) (by unfold nodeV; simp [results, Try.results69, go_sem, d0, d1, d2, d3, d4, d5, d6, d7, hn1, hn2]; try rfl) rfl ?_
        exact node_post (r := .ok (.node op f mn mx kids) q) HPP.out (HA5.out) H5.out.only HLT.out HSZ.out (H5.out.kids.mono fun b hb => hb.1) (fun _ _ h => by first | injection h | cases h)
    · have HH := Lib.hid hH; have HA := Lib.hid ha; have HCC := Lib.hid hcc; have HPP := Lib.hid hpn
      obtain ⟨kn, hkn⟩ : ∃ kn, kn = kids.length := ⟨_, rfl⟩
      rw [← hkn] at HH
      clear hH ha hcc hpn hkn
      go_wp2_with fail
      refine (peek_bad g s pb o cc _ _ HA.out HCC.out).mono ?_
      rintro e9 w4 ⟨rfl, hb⟩
      have HA4 := Lib.hid (HA.out.below hb); have H4 := Lib.hid (HH.out.below HLT.out HB3.out hb)
      clear hb
      go_wp2_with fail
      refine (peek_bad g s pb o cc _ _ HA4.out HCC.out).mono ?_
      rintro e9 w5 ⟨rfl, hb⟩
      have HA5 := Lib.hid (HA4.out.below hb); have H5 := Lib.hid (H4.out.below HLT.out HB3.out hb)
      clear hb
      have k0 : w5.cell? ⟨w3.heap.size, 0, none⟩ = some (.int .i64 op) := H5.out.node.cell 0 _ rfl
      have k1 : w5.cell? ⟨w3.heap.size, 1, none⟩ = some (.int .u64 ((wd f 0 : Nat) : Int)) := H5.out.node.cell 1 _ rfl
      have k2 : w5.cell? ⟨w3.heap.size, 2, none⟩ = some (.int .u64 ((wd f 1 : Nat) : Int)) := H5.out.node.cell 2 _ rfl
      have k3 : w5.cell? ⟨w3.heap.size, 3, none⟩ = some (.int .u64 ((wd f 2 : Nat) : Int)) := H5.out.node.cell 3 _ rfl
      have k4 : w5.cell? ⟨w3.heap.size, 4, none⟩ = some (.int .u64 ((wd f 3 : Nat) : Int)) := H5.out.node.cell 4 _ rfl
      have k5 : w5.cell? ⟨w3.heap.size, 5, none⟩ = some (.int .i64 mn) := H5.out.node.cell 5 _ rfl
      have k6 : w5.cell? ⟨w3.heap.size, 6, none⟩ = some (.int .i64 mx) := H5.out.node.cell 6 _ rfl
      have k7 : w5.cell? ⟨w3.heap.size, 7, none⟩ = some (.slice ka kn kc) := H5.out.node.cell 7 _ rfl
      have d0 : w5.cell? ⟨w.heap.size, 0, none⟩ = some (.int .i64 0) := (H5.out.cell).cell 0 _ rfl
      have d1 : w5.cell? ⟨w.heap.size, 1, none⟩ = some (.int .u64 0) := (H5.out.cell).cell 1 _ rfl
      have d2 : w5.cell? ⟨w.heap.size, 2, none⟩ = some (.int .u64 0) := (H5.out.cell).cell 2 _ rfl
      have d3 : w5.cell? ⟨w.heap.size, 3, none⟩ = some (.int .u64 0) := (H5.out.cell).cell 3 _ rfl
      have d4 : w5.cell? ⟨w.heap.size, 4, none⟩ = some (.int .u64 0) := (H5.out.cell).cell 4 _ rfl
      have d5 : w5.cell? ⟨w.heap.size, 5, none⟩ = some (.int .i64 0) := (H5.out.cell).cell 5 _ rfl
      have d6 : w5.cell? ⟨w.heap.size, 6, none⟩ = some (.int .i64 0) := (H5.out.cell).cell 6 _ rfl
      have d7 : w5.cell? ⟨w.heap.size, 7, none⟩ = some (.slice none 0 0) := (H5.out.cell).cell 7 _ rfl
      have f0 := (H5.out.cell).frozen 0; have f1 := (H5.out.cell).frozen 1; have f2 := (H5.out.cell).frozen 2; have f3 := (H5.out.cell).frozen 3
      have f4 := (H5.out.cell).frozen 4; have f5 := (H5.out.cell).frozen 5; have f6 := (H5.out.cell).frozen 6; have f7 := (H5.out.cell).frozen 7
      have HSZ := Lib.hid (show w.heap.size < w5.heap.size from H5.out.cell.lt)
      have hn1 : w3.heap.size ≠ w.heap.size := by have := HB3.out; omega
      have hn2 : w.heap.size ≠ w3.heap.size := by have := HB3.out; omega
      go_wp2_with fail
      refine bodyPost_ret (v := nodeV (.node op f mn mx kids) (.slice ka kn kc)) (by unfold nodeV; simp [results, Try.results69, go_sem, d0, d1, d2, d3, d4, d5, d6, d7, hn1, hn2]; try rfl) rfl ?_
      exact node_post (r := .no cc yy) HPP.out (⟨_, HA5.out⟩) H5.out.only HLT.out HSZ.out (H5.out.kids.mono fun b hb => hb.1) (fun _ _ h => by first | injection h | cases h)
end Go.Proofs.Ytofgkildlhcpdaa
/- The document's Reader: rows of nodes that part and pattern build. -/
set_option linter.unusedVariables false
set_option linter.unusedSimpArgs false
namespace Go.Proofs.Ytofgkildlhcpdaa
open Go.RowKit Bt
/-- a row of nodes held behind w: its slice v, its trees and their kids' slices -/
structure Kids (g : Nat) (w : World) (v : Value) (ps : List (Tree × Value)) (wr : World) : Prop where
  row : wr.ownsRow (w.heap.size + 1) 29 8 v ps.length (flatN ps)
  kids : AllK (IvB (w.heap.size + 1) wr.heap.size v) wr ps
  cell : AtG wr w.heap.size 29 nodeZ
  only : Only (fun k => k = g) w wr
namespace Kids
variable {g : Nat} {w wr w2 : World} {v : Value} {ps : List (Tree × Value)}
theorem keepAll {D D' : Nat → Prop} {w w' : World} {ps : List (Tree × Value)} (hk : ∀ b, D b → w'.heap[b]? = w.heap[b]?) (hD : ∀ b, D b → D' b) (h : AllK D w ps) : AllK D' w' ps := fun p hp => KAt.keep hk hD _ _ (h p hp)
theorem next (h : Kids g w v ps wr) (hg : g < w.heap.size) (hO : Only (fun k => k = g) wr w2) : Kids g w v ps w2 :=
  ⟨own_only h.row hO (fun k hk => by have := own_base h.row k hk; show ¬ (k = g); omega), keepAll (fun b hb => hO.block b hb.1.2 (by have := hb.1.1; show ¬ (b = g); omega)) (fun b hb => ⟨⟨hb.1.1, Nat.lt_of_lt_of_le hb.1.2 hO.size⟩, hb.2⟩) h.kids,
    h.cell.only hO (by show ¬ (w.heap.size = g); omega), h.only.tr hO⟩
theorem below (h : Kids g w v ps wr) (hg : g < w.heap.size) (hO : Below wr.heap.size wr w2) : Kids g w v ps w2 := h.next hg (Only.of_below hO)
/-- the first of them, in a new block -/
theorem start {op : Int} {f : Nat → Bool} {mn mx : Int} {kids : List Tree} {kv : Value} (hc : AtG wr w.heap.size 29 nodeZ) (ho : Only (fun k => k = g) w wr) (hK : KAt (Iv (w.heap.size + 1) wr.heap.size) wr (.node op f mn mx kids) kv) :
    Kids g w (.slice (some ⟨wr.heap.size, 0, none⟩) 1 1) [(.node op f mn mx kids, kv)] (wr.alloc (.cells (nodeC op f mn mx kv) 29)) := by
  refine ⟨own_node (AtG.new _ _ _) (by have := hc.lt; omega), ?_, hc.alloc _, ho.al _⟩
  intro p hp
  simp only [List.mem_singleton] at hp
  subst hp
  exact KAt.keep (fun b hb => ((Below.refl wr.heap.size wr).alloc (Nat.le_refl _) _).block b hb.2) (fun b hb => ⟨⟨hb.1, by have := hb.2; simp; omega⟩, fun e => by have := hb.2; have e2 : wr.heap.size = b := Option.some.inj e; omega⟩) _ _ hK
/-- one more of them: behind the call (w2), the box (w3) and append (w4) -/
theorem more {w4 : World} {v' : Value} {op : Int} {f : Nat → Bool} {mn mx : Int} {kids : List Tree} {kv : Value} (h : Kids g w v ps wr) (hg : g < w.heap.size) (hO : Only (fun k => k = g) wr w2) (hK : KAt (Iv wr.heap.size w2.heap.size) w2 (.node op f mn mx kids) kv)
    (hown : w4.ownsRow (w.heap.size + 1) 29 8 v' (ps.length + 1) (flatN ps ++ nodeL (.node op f mn mx kids) kv)) (hgr : (w2.alloc (.cells (nodeC op f mn mx kv) 29)).grownBy w4 v.ownBlock) (hbk : v'.ownBlock = v.ownBlock ∨ v'.ownBlock = some (w2.alloc (.cells (nodeC op f mn mx kv) 29)).heap.size) :
    Kids g w v' (ps ++ [(.node op f mn mx kids, kv)]) w4 := by
  have h3 := (h.next hg hO).below hg ((Below.refl w2.heap.size w2).alloc (Nat.le_refl _) (.cells (nodeC op f mn mx kv) 29))
  have hws : w.heap.size + 1 ≤ wr.heap.size := by have := h.cell.lt; omega
  have hblk : ∀ b, b < (w2.alloc (.cells (nodeC op f mn mx kv) 29)).heap.size → v.ownBlock ≠ some b → w4.heap[b]? = (w2.alloc (.cells (nodeC op f mn mx kv) 29)).heap[b]? := fun b hb hv => hgr.block b hb (fun e => hv e.symm)
  have hne : ∀ b, b < (w2.alloc (.cells (nodeC op f mn mx kv) 29)).heap.size → v.ownBlock ≠ some b → v'.ownBlock ≠ some b := fun b hb hv e => by
    rcases hbk with h1 | h1
    · rw [h1] at e; exact hv e
    · rw [h1] at e; injection e with e; omega
  have hlt : ∀ k, v.ownBlock = some k → k < wr.heap.size := fun k hk => own_lt h.row k hk
  refine ⟨by rw [List.length_append, flatN_snoc]; exact hown, ?_, h3.cell.grown hgr (fun e => by have := own_base h.row _ e; omega), h3.only.trans (Only.of_grown (S := fun k => v.ownBlock = some k) hgr (fun k hk => hk)) (fun k hk => .inr (by have := own_base h.row k hk; omega))⟩
  intro p hp
  rcases List.mem_append.1 hp with hp | hp
  · exact KAt.keep (fun b hb => hblk b hb.1.2 hb.2) (fun b hb => ⟨⟨hb.1.1, Nat.lt_of_lt_of_le hb.1.2 hgr.size⟩, hne b hb.1.2 hb.2⟩) _ _ (h3.kids p hp)
  · simp only [List.mem_singleton] at hp
    subst hp
    have hsz : (w2.alloc (.cells (nodeC op f mn mx kv) 29)).heap.size = w2.heap.size + 1 := by simp
    have hv : ∀ b, Iv wr.heap.size w2.heap.size b → v.ownBlock ≠ some b := fun b hb e => by have := hlt b e; have := hb.1; omega
    refine KAt.keep (fun b hb => ?_) (fun b hb => ⟨⟨by have := hb.1; omega, by have := hb.2; have := hgr.size; omega⟩, hne b (by have := hb.2; omega) (hv b hb)⟩) _ _ hK
    rw [hblk b (by have := hb.2; omega) (hv b hb)]
    exact ((Below.refl w2.heap.size w2).alloc (Nat.le_refl _) _).block b hb.2
end Kids
end Go.Proofs.Ytofgkildlhcpdaa
/- The document's Reader: part. -/
set_option linter.unusedVariables false
set_option linter.unusedSimpArgs false
namespace Go.Proofs.Ytofgkildlhcpdaa
open Go.RowKit Bt
/-- where the reader stands between two rounds of part -/
def partS (s : ByteArray) (g o : Nat) (x : Int) (p : Nat) (l : List Tree) (wr : World) : Prop :=
  (∃ q : Nat, AtG wr g 89 (rdr s (q : Int) (o : Int) 0 x) ∧ l.length ≤ q ∧ p < q ∧ q ≤ s.size ∧ ∀ r, P s (.partL l) o q r → P s .part o p r) ∨ (∃ (c : Int) (y : Nat) (pb : Int), c ≠ 0 ∧ AtG wr g 89 (rdr s pb (o : Int) c (y : Int)) ∧ P s .part o p (.no c y))
set_option maxRecDepth 100000 in
set_option maxHeartbeats 4000000 in
theorem part_any (g : Nat) (s : ByteArray) (p o : Nat) (x : Int) (w : World) (h : AtG w g 89 (rdr s p o 0 x)) (hp : p ≤ s.size) (hm : s.size ≤ 1000) (ho2 : o ≤ 20) (hpat : PatC s g x (p + 1)) :
    Calls Try.prog 61 #[.pointer (some ⟨g, 0, none⟩)] w (NPost s g o x w .part p) := by
  have HM := Lib.hid hm; have HLT := Lib.hid h.lt; have H0 := Lib.hid (atM_start h)
  have HFI := Lib.hid (piece_any g s p o x (w.alloc (.cells nodeZ 29)) (AtG.alloc h _) hp hm ho2 hpat)
  have HO20 := Lib.hid ho2; have HPAT := Lib.hid hpat
  clear h ho2 hpat
  go_enter Try.func61, Try.ntmps61
  go_wp2_with fail
  refine (HFI.out).mono ?_
  rintro e9 w3 ⟨t, kv, rfl, hK, hO, r, hPr, hS, hi⟩
  obtain ⟨op, f, mn, mx, kids⟩ := t
  obtain ⟨ka, kc, rfl⟩ := KAt.slice hK
  obtain ⟨kn, hkn⟩ : ∃ kn, kn = kids.length := ⟨_, rfl⟩
  rw [← hkn] at hK ⊢
  clear hkn
  have hrin := P.in hPr hp
  have hw3 : w.heap.size < w3.heap.size := by have := hO.size; simp at this; omega
  have HH : Hid (Kids g w (.slice (some ⟨w3.heap.size, 0, none⟩) 1 1) [(.node op f mn mx kids, .slice ka kn kc)] (w3.alloc (.cells (nodeC op f mn mx (.slice ka kn kc)) 29))) := Lib.hid
    (Kids.start (H0.out.cell.only hO (by show ¬ (w.heap.size = g); have := HLT.out; omega)) (H0.out.only.tr hO) (by
      have : (w.alloc (.cells nodeZ 29)).heap.size = w.heap.size + 1 := by simp
      rw [this] at hK; exact hK))
  have HS0 : Hid (partS s g o x p [.node op f mn mx kids] (w3.alloc (.cells (nodeC op f mn mx (.slice ka kn kc)) 29))) := Lib.hid (by
    cases r with
    | ok t' q =>
      have := hi t' q rfl
      subst this
      exact .inl ⟨q, AtG.alloc hS _, by have := hrin.1; simp [Q.far] at *; omega, by have := hrin.1; simp [Q.far] at this; omega, hrin.2, fun r hr => P.partOk hPr hr⟩
    | no c y =>
      obtain ⟨pb, hS⟩ := hS
      exact .inr ⟨c, y, pb, by have := hrin.1; omega, hS.alloc _, P.partNo hPr⟩)
  clear hK hO hPr hS hi hrin hw3 hp
  unfold nodeV
  dsimp only
  go_wp2_with fail
  go_loopw [3] (fun t3 wr => ∃ (v : Value) (ps : List (Tree × Value)), v = t3 ∧ ps ≠ [] ∧ ps.length ≤ 1000 ∧ Kids g w v ps wr ∧ partS s g o x p (ps.map (·.1)) wr) (fun _ wr => leftR s g wr)
  case atStart => exact ⟨_, _, rfl, by simp, by simp, HH.out, HS0.out⟩
  case round =>
    clear HH HS0
    obtain ⟨v, ps, hv3, hpn, hl9, hH, ⟨q, ha, hlq, hpq, hq, hin⟩ | ⟨cc, yy, pb, hcc, ha, hpno⟩⟩ := hrel
    · subst hv3
      have HPN := Lib.hid hpn; have HL9 := Lib.hid hl9; have HH := Lib.hid hH; have HA := Lib.hid ha; have HQ := Lib.hid hq; have HIN := Lib.hid hin; have HLQ := Lib.hid hlq; have HPQ := Lib.hid hpq
      have HLR := Lib.hid (leftR_ok ha)
      have HPK := Lib.hid (fun w h => peek_any g s q o x w h)
      clear hpn hl9 hH ha hin hlq hpq
      by_cases h0 : ch s q < 0
      · have HPP : Hid (P s .part o p (.ok (many 2 (ps.map (·.1))) q)) := Lib.hid (HIN.out _ (P.partEnd (fun h => by have := h.1; omega)))
        have hge : ¬ 0 ≤ ch s q := by omega
        generalize ch s q = c at *
        go_wp2_with fail
        refine (HPK.out _ HA.out).mono ?_
        rintro e9 wk0 ⟨rfl, hb⟩
        have HA9 := Lib.hid (HA.out.below hb); have HH9 := Lib.hid (HH.out.below HLT.out hb)
        clear hb
        go_wp2_with fail
        refine (many_any 2 (w.heap.size + 1) ps.length v ps _ HH9.out.row HH9.out.kids HPN.out HL9.out).mono ?_
        rintro e9 wn ⟨hb, kv, rfl, hK⟩
        have HN := Lib.hid (HH9.out.below HLT.out hb); have HBN := Lib.hid hb
        have HKN := Lib.hid (KAt.below hK hb hb.size)
        clear hb hK
        generalize many 2 (ps.map (·.1)) = T at *
        obtain ⟨op, f, mn, mx, kids⟩ := T
        obtain ⟨ka, kc, rfl⟩ := KAt.slice HKN.out
        obtain ⟨kn, hkn⟩ : ∃ kn, kn = kids.length := ⟨_, rfl⟩
        rw [← hkn] at HKN ⊢
        clear hkn
        have d0 : wn.cell? ⟨w.heap.size, 0, none⟩ = some (.int .i64 0) := (HN.out.cell).cell 0 _ rfl
        have d1 : wn.cell? ⟨w.heap.size, 1, none⟩ = some (.int .u64 0) := (HN.out.cell).cell 1 _ rfl
        have d2 : wn.cell? ⟨w.heap.size, 2, none⟩ = some (.int .u64 0) := (HN.out.cell).cell 2 _ rfl
        have d3 : wn.cell? ⟨w.heap.size, 3, none⟩ = some (.int .u64 0) := (HN.out.cell).cell 3 _ rfl
        have d4 : wn.cell? ⟨w.heap.size, 4, none⟩ = some (.int .u64 0) := (HN.out.cell).cell 4 _ rfl
        have d5 : wn.cell? ⟨w.heap.size, 5, none⟩ = some (.int .i64 0) := (HN.out.cell).cell 5 _ rfl
        have d6 : wn.cell? ⟨w.heap.size, 6, none⟩ = some (.int .i64 0) := (HN.out.cell).cell 6 _ rfl
        have d7 : wn.cell? ⟨w.heap.size, 7, none⟩ = some (.slice none 0 0) := (HN.out.cell).cell 7 _ rfl
        have f0 := (HN.out.cell).frozen 0; have f1 := (HN.out.cell).frozen 1; have f2 := (HN.out.cell).frozen 2; have f3 := (HN.out.cell).frozen 3
        have f4 := (HN.out.cell).frozen 4; have f5 := (HN.out.cell).frozen 5; have f6 := (HN.out.cell).frozen 6; have f7 := (HN.out.cell).frozen 7
        have HSZ := Lib.hid (show w.heap.size < wn.heap.size from HN.out.cell.lt)
        unfold nodeV
        dsimp only
        go_wp2_with fail
        refine bodyPost_ret (v := nodeV (.node op f mn mx kids) (.slice ka kn kc)) (by unfold nodeV; simp [results, Try.results61, go_sem, d0, d1, d2, d3, d4, d5, d6, d7]; try rfl) rfl ?_
        exact node_post (r := .ok (.node op f mn mx kids) q) HPP.out (HA9.out.below HBN.out) HN.out.only HLT.out HSZ.out HKN.out (fun _ _ h => by first | injection h | cases h)
      have h0' : 0 ≤ ch s q := by omega
      by_cases h124 : ch s q = 124
      · have HPP : Hid (P s .part o p (.ok (many 2 (ps.map (·.1))) q)) := Lib.hid (HIN.out _ (P.partEnd (fun h => h.2.1 h124)))
        rw [h124] at HPK
        clear h0 h0' h124
        go_wp2_with fail
        refine (HPK.out _ HA.out).mono ?_
        rintro e9 wk0 ⟨rfl, hb⟩
        have HA0_ := Lib.hid (HA.out.below hb); have HH0_ := Lib.hid (HH.out.below HLT.out hb)
        clear hb
        go_wp2_with fail
        refine (HPK.out _ HA0_.out).mono ?_
        rintro e9 wk1 ⟨rfl, hb⟩
        have HA9 := Lib.hid (HA0_.out.below hb); have HH9 := Lib.hid (HH0_.out.below HLT.out hb)
        clear hb
        go_wp2_with fail
        refine (many_any 2 (w.heap.size + 1) ps.length v ps _ HH9.out.row HH9.out.kids HPN.out HL9.out).mono ?_
        rintro e9 wn ⟨hb, kv, rfl, hK⟩
        have HN := Lib.hid (HH9.out.below HLT.out hb); have HBN := Lib.hid hb
        have HKN := Lib.hid (KAt.below hK hb hb.size)
        clear hb hK
        generalize many 2 (ps.map (·.1)) = T at *
        obtain ⟨op, f, mn, mx, kids⟩ := T
        obtain ⟨ka, kc, rfl⟩ := KAt.slice HKN.out
        obtain ⟨kn, hkn⟩ : ∃ kn, kn = kids.length := ⟨_, rfl⟩
        rw [← hkn] at HKN ⊢
        clear hkn
        have d0 : wn.cell? ⟨w.heap.size, 0, none⟩ = some (.int .i64 0) := (HN.out.cell).cell 0 _ rfl
        have d1 : wn.cell? ⟨w.heap.size, 1, none⟩ = some (.int .u64 0) := (HN.out.cell).cell 1 _ rfl
        have d2 : wn.cell? ⟨w.heap.size, 2, none⟩ = some (.int .u64 0) := (HN.out.cell).cell 2 _ rfl
        have d3 : wn.cell? ⟨w.heap.size, 3, none⟩ = some (.int .u64 0) := (HN.out.cell).cell 3 _ rfl
        have d4 : wn.cell? ⟨w.heap.size, 4, none⟩ = some (.int .u64 0) := (HN.out.cell).cell 4 _ rfl
        have d5 : wn.cell? ⟨w.heap.size, 5, none⟩ = some (.int .i64 0) := (HN.out.cell).cell 5 _ rfl
        have d6 : wn.cell? ⟨w.heap.size, 6, none⟩ = some (.int .i64 0) := (HN.out.cell).cell 6 _ rfl
        have d7 : wn.cell? ⟨w.heap.size, 7, none⟩ = some (.slice none 0 0) := (HN.out.cell).cell 7 _ rfl
        have f0 := (HN.out.cell).frozen 0; have f1 := (HN.out.cell).frozen 1; have f2 := (HN.out.cell).frozen 2; have f3 := (HN.out.cell).frozen 3
        have f4 := (HN.out.cell).frozen 4; have f5 := (HN.out.cell).frozen 5; have f6 := (HN.out.cell).frozen 6; have f7 := (HN.out.cell).frozen 7
        have HSZ := Lib.hid (show w.heap.size < wn.heap.size from HN.out.cell.lt)
        unfold nodeV
        dsimp only
        go_wp2_with fail
        refine bodyPost_ret (v := nodeV (.node op f mn mx kids) (.slice ka kn kc)) (by unfold nodeV; simp [results, Try.results61, go_sem, d0, d1, d2, d3, d4, d5, d6, d7]; try rfl) rfl ?_
        exact node_post (r := .ok (.node op f mn mx kids) q) HPP.out (HA9.out.below HBN.out) HN.out.only HLT.out HSZ.out HKN.out (fun _ _ h => by first | injection h | cases h)
      have HQLT := Lib.hid (ch_ge h0')
      by_cases h41 : ch s q = 41
      · rw [h41] at HPK
        obtain ⟨oi, hoi⟩ : ∃ oi : Int, oi = (o : Int) := ⟨_, rfl⟩
        by_cases ho : o = 0
        · have HG : Hid (goes s o q) := Lib.hid ⟨h0', h124, .inr ho⟩
          have HOI : Hid ((o : Int) = 0) := Lib.hid (by omega)
          clear h0 h0' h124 h41 hoi oi ho
          go_wp2_with fail
          refine (HPK.out _ HA.out).mono ?_
          rintro e9 wk0 ⟨rfl, hb⟩
          have HA0_ := Lib.hid (HA.out.below hb); have HH0_ := Lib.hid (HH.out.below HLT.out hb)
          clear hb
          go_wp2_with fail
          refine (HPK.out _ HA0_.out).mono ?_
          rintro e9 wk1 ⟨rfl, hb⟩
          have HA1_ := Lib.hid (HA0_.out.below hb); have HH1_ := Lib.hid (HH0_.out.below HLT.out hb)
          clear hb
          go_wp2_with fail
          refine (HPK.out _ HA1_.out).mono ?_
          rintro e9 wk2 ⟨rfl, hb⟩
          have HA9 := Lib.hid (HA1_.out.below hb); have HH9 := Lib.hid (HH1_.out.below HLT.out hb)
          clear hb
          have z2 : wk2.cell? ⟨g, 2, none⟩ = some (.int .i64 0) := by have hz : wk2.cell? ⟨g, 2, none⟩ = some (.int .i64 (o : Int)) := HA9.out.cell 2 _ rfl; rw [HOI.out] at hz; exact hz
          go_wp2_with fail
          refine (piece_any g s q o x _ HA9.out HQ.out HM.out HO20.out (fun p' hp' => HPAT.out p' (by have := HPQ.out; omega))).mono ?_
          rintro e9 wp ⟨t, kv, rfl, hK, hO, r, hPr, hS, hi⟩
          obtain ⟨op, f, mn, mx, kids⟩ := t
          obtain ⟨ka, kc, rfl⟩ := KAt.slice hK
          obtain ⟨kn, hkn⟩ : ∃ kn, kn = kids.length := ⟨_, rfl⟩
          rw [← hkn] at hK ⊢
          clear hkn
          have HROW := Lib.hid (((HH9.out.next HLT.out hO).below HLT.out ((Below.refl wp.heap.size wp).alloc (Nat.le_refl _) (.cells (nodeC op f mn mx (.slice ka kn kc)) 29))).row)
          have HWS : Hid (w.heap.size + 1 ≤ wp.heap.size) := Lib.hid (by have := HH9.out.cell.lt; have := hO.size; omega)
          have HOP := Lib.hid hO; have HKP := Lib.hid hK; have HPR := Lib.hid hPr; have HSP := Lib.hid hS; have HIP := Lib.hid hi
          clear hK hO hPr hS hi
          unfold nodeV
          dsimp only
          go_wp2_with (at_builtin; go_must (refine wpList_appRowX rfl (.tmp 27) (.tmp 30) 27 rfl (w.heap.size + 1) 29 _ 8 80 Try.underlying27 infoNode rfl (by decide) v _ ps.length 1 (flatN ps) (nodeL (.node op f mn mx kids) (.slice ka kn kc)) HROW.out (src_at (AtG.new _ 29 _) 1) rfl rfl rfl (fun y hy => by unfold nodeL at hy; simp at hy; rcases hy with rfl | rfl | rfl | rfl | rfl | rfl | rfl | rfl <;> rfl) (by have := HL9.out; omega) (by decide) (by have := HWS.out; simp; omega) ?_); intro v' w4 hown hgr hbk; have HK4 := Lib.hid (HH9.out.more HLT.out HOP.out HKP.out hown hgr hbk); have HGR := Lib.hid hgr; clear hown hgr hbk)
          have hrin := P.in HPR.out HQ.out
          have hlen : ps.length + 1 ≤ q + 1 := by have := HLQ.out; simp at this; omega
          have hqn : q < s.size := HQLT.out
          refine ⟨⟨v', ps ++ [(.node op f mn mx kids, .slice ka kn kc)], rfl, by simp, by have := HM.out; simp; omega, HK4.out, ?_⟩, ?_⟩
          · cases r with
            | ok t' q' =>
              have := HIP.out t' q' rfl
              subst this
              refine .inl ⟨q', ?_, by have := hrin.1; simp [Q.far] at *; omega, by have := hrin.1; have := HPQ.out; simp [Q.far] at *; omega, hrin.2, fun r hr => HIN.out _ (P.partMore HG.out HPR.out (by simpa using hr))⟩
              exact ((AtG.alloc HSP.out _)).grown HGR.out (fun e => by have := own_base HH9.out.row _ e; have := HLT.out; omega)
            | no c y =>
              obtain ⟨pb, hS⟩ := HSP.out
              exact .inr ⟨c, y, pb, by have := hrin.1; omega, (hS.alloc _).grown HGR.out (fun e => by have := own_base HH9.out.row _ e; have := HLT.out; omega), HIN.out _ (P.partBad HG.out HPR.out)⟩
          · cases r with
            | ok t' q' =>
              have h5 := ((AtG.alloc HSP.out (.cells (nodeC op f mn mx (.slice ka kn kc)) 29))).grown HGR.out (fun e => by have := own_base HH9.out.row _ e; have := HLT.out; omega)
              rw [leftR_ok h5, HLR.out]
              have h1 := hrin.1; have h2 := hrin.2
              simp [Q.far] at h1; omega
            | no c y =>
              obtain ⟨pb, hS⟩ := HSP.out
              have h5 := (hS.alloc (.cells (nodeC op f mn mx (.slice ka kn kc)) 29)).grown HGR.out (fun e => by have := own_base HH9.out.row _ e; have := HLT.out; omega)
              rw [leftR_no h5 (by have := hrin.1; omega), HLR.out]
              omega
        · have HPP : Hid (P s .part o p (.ok (many 2 (ps.map (·.1))) q)) := Lib.hid (HIN.out _ (P.partEnd (fun h => h.2.2.elim (fun h => h h41) ho)))
          have eo : (oi == 0) = false := by rw [beq_eq_false_iff_ne]; omega
          have no : ¬ oi = 0 := by omega
          have HOI := Lib.hid hoi
          clear h0 h0' h124 h41 ho hoi
          go_wp2_with fail
          refine (HPK.out _ HA.out).mono ?_
          rintro e9 wk0 ⟨rfl, hb⟩
          have HA0_ := Lib.hid (HA.out.below hb); have HH0_ := Lib.hid (HH.out.below HLT.out hb)
          clear hb
          go_wp2_with fail
          refine (HPK.out _ HA0_.out).mono ?_
          rintro e9 wk1 ⟨rfl, hb⟩
          have HA1_ := Lib.hid (HA0_.out.below hb); have HH1_ := Lib.hid (HH0_.out.below HLT.out hb)
          clear hb
          go_wp2_with fail
          refine (HPK.out _ HA1_.out).mono ?_
          rintro e9 wk2 ⟨rfl, hb⟩
          have HA9 := Lib.hid (HA1_.out.below hb); have HH9 := Lib.hid (HH1_.out.below HLT.out hb)
          clear hb
          have z2 : wk2.cell? ⟨g, 2, none⟩ = some (.int .i64 oi) := by rw [HOI.out]; exact HA9.out.cell 2 _ rfl
          go_wp2_with fail
          refine (many_any 2 (w.heap.size + 1) ps.length v ps _ HH9.out.row HH9.out.kids HPN.out HL9.out).mono ?_
          rintro e9 wn ⟨hb, kv, rfl, hK⟩
          have HN := Lib.hid (HH9.out.below HLT.out hb); have HBN := Lib.hid hb
          have HKN := Lib.hid (KAt.below hK hb hb.size)
          clear hb hK
          generalize many 2 (ps.map (·.1)) = T at *
          obtain ⟨op, f, mn, mx, kids⟩ := T
          obtain ⟨ka, kc, rfl⟩ := KAt.slice HKN.out
          obtain ⟨kn, hkn⟩ : ∃ kn, kn = kids.length := ⟨_, rfl⟩
          rw [← hkn] at HKN ⊢
          clear hkn
          have d0 : wn.cell? ⟨w.heap.size, 0, none⟩ = some (.int .i64 0) := (HN.out.cell).cell 0 _ rfl
          have d1 : wn.cell? ⟨w.heap.size, 1, none⟩ = some (.int .u64 0) := (HN.out.cell).cell 1 _ rfl
          have d2 : wn.cell? ⟨w.heap.size, 2, none⟩ = some (.int .u64 0) := (HN.out.cell).cell 2 _ rfl
          have d3 : wn.cell? ⟨w.heap.size, 3, none⟩ = some (.int .u64 0) := (HN.out.cell).cell 3 _ rfl
          have d4 : wn.cell? ⟨w.heap.size, 4, none⟩ = some (.int .u64 0) := (HN.out.cell).cell 4 _ rfl
          have d5 : wn.cell? ⟨w.heap.size, 5, none⟩ = some (.int .i64 0) := (HN.out.cell).cell 5 _ rfl
          have d6 : wn.cell? ⟨w.heap.size, 6, none⟩ = some (.int .i64 0) := (HN.out.cell).cell 6 _ rfl
          have d7 : wn.cell? ⟨w.heap.size, 7, none⟩ = some (.slice none 0 0) := (HN.out.cell).cell 7 _ rfl
          have f0 := (HN.out.cell).frozen 0; have f1 := (HN.out.cell).frozen 1; have f2 := (HN.out.cell).frozen 2; have f3 := (HN.out.cell).frozen 3
          have f4 := (HN.out.cell).frozen 4; have f5 := (HN.out.cell).frozen 5; have f6 := (HN.out.cell).frozen 6; have f7 := (HN.out.cell).frozen 7
          have HSZ := Lib.hid (show w.heap.size < wn.heap.size from HN.out.cell.lt)
          unfold nodeV
          dsimp only
          go_wp2_with fail
          refine bodyPost_ret (v := nodeV (.node op f mn mx kids) (.slice ka kn kc)) (by unfold nodeV; simp [results, Try.results61, go_sem, d0, d1, d2, d3, d4, d5, d6, d7]; try rfl) rfl ?_
          exact node_post (r := .ok (.node op f mn mx kids) q) HPP.out (HA9.out.below HBN.out) HN.out.only HLT.out HSZ.out HKN.out (fun _ _ h => by first | injection h | cases h)
      · have HG : Hid (goes s o q) := Lib.hid ⟨h0', h124, .inl h41⟩
        have e1 : (ch s q == 124) = false := by rw [beq_eq_false_iff_ne]; exact h124
        have e2 : (ch s q == 41) = false := by rw [beq_eq_false_iff_ne]; exact h41
        generalize ch s q = c at *
        clear h0
        go_wp2_with fail
        refine (HPK.out _ HA.out).mono ?_
        rintro e9 wk0 ⟨rfl, hb⟩
        have HA0_ := Lib.hid (HA.out.below hb); have HH0_ := Lib.hid (HH.out.below HLT.out hb)
        clear hb
        go_wp2_with fail
        refine (HPK.out _ HA0_.out).mono ?_
        rintro e9 wk1 ⟨rfl, hb⟩
        have HA1_ := Lib.hid (HA0_.out.below hb); have HH1_ := Lib.hid (HH0_.out.below HLT.out hb)
        clear hb
        go_wp2_with fail
        refine (HPK.out _ HA1_.out).mono ?_
        rintro e9 wk2 ⟨rfl, hb⟩
        have HA9 := Lib.hid (HA1_.out.below hb); have HH9 := Lib.hid (HH1_.out.below HLT.out hb)
        clear hb
        clear e1 e2
        go_wp2_with fail
        refine (piece_any g s q o x _ HA9.out HQ.out HM.out HO20.out (fun p' hp' => HPAT.out p' (by have := HPQ.out; omega))).mono ?_
        rintro e9 wp ⟨t, kv, rfl, hK, hO, r, hPr, hS, hi⟩
        obtain ⟨op, f, mn, mx, kids⟩ := t
        obtain ⟨ka, kc, rfl⟩ := KAt.slice hK
        obtain ⟨kn, hkn⟩ : ∃ kn, kn = kids.length := ⟨_, rfl⟩
        rw [← hkn] at hK ⊢
        clear hkn
        have HROW := Lib.hid (((HH9.out.next HLT.out hO).below HLT.out ((Below.refl wp.heap.size wp).alloc (Nat.le_refl _) (.cells (nodeC op f mn mx (.slice ka kn kc)) 29))).row)
        have HWS : Hid (w.heap.size + 1 ≤ wp.heap.size) := Lib.hid (by have := HH9.out.cell.lt; have := hO.size; omega)
        have HOP := Lib.hid hO; have HKP := Lib.hid hK; have HPR := Lib.hid hPr; have HSP := Lib.hid hS; have HIP := Lib.hid hi
        clear hK hO hPr hS hi
        unfold nodeV
        dsimp only
        go_wp2_with (at_builtin; go_must (refine wpList_appRowX rfl (.tmp 27) (.tmp 30) 27 rfl (w.heap.size + 1) 29 _ 8 80 Try.underlying27 infoNode rfl (by decide) v _ ps.length 1 (flatN ps) (nodeL (.node op f mn mx kids) (.slice ka kn kc)) HROW.out (src_at (AtG.new _ 29 _) 1) rfl rfl rfl (fun y hy => by unfold nodeL at hy; simp at hy; rcases hy with rfl | rfl | rfl | rfl | rfl | rfl | rfl | rfl <;> rfl) (by have := HL9.out; omega) (by decide) (by have := HWS.out; simp; omega) ?_); intro v' w4 hown hgr hbk; have HK4 := Lib.hid (HH9.out.more HLT.out HOP.out HKP.out hown hgr hbk); have HGR := Lib.hid hgr; clear hown hgr hbk)
        have hrin := P.in HPR.out HQ.out
        have hlen : ps.length + 1 ≤ q + 1 := by have := HLQ.out; simp at this; omega
        have hqn : q < s.size := HQLT.out
        refine ⟨⟨v', ps ++ [(.node op f mn mx kids, .slice ka kn kc)], rfl, by simp, by have := HM.out; simp; omega, HK4.out, ?_⟩, ?_⟩
        · cases r with
          | ok t' q' =>
            have := HIP.out t' q' rfl
            subst this
            refine .inl ⟨q', ?_, by have := hrin.1; simp [Q.far] at *; omega, by have := hrin.1; have := HPQ.out; simp [Q.far] at *; omega, hrin.2, fun r hr => HIN.out _ (P.partMore HG.out HPR.out (by simpa using hr))⟩
            exact ((AtG.alloc HSP.out _)).grown HGR.out (fun e => by have := own_base HH9.out.row _ e; have := HLT.out; omega)
          | no c y =>
            obtain ⟨pb, hS⟩ := HSP.out
            exact .inr ⟨c, y, pb, by have := hrin.1; omega, (hS.alloc _).grown HGR.out (fun e => by have := own_base HH9.out.row _ e; have := HLT.out; omega), HIN.out _ (P.partBad HG.out HPR.out)⟩
        · cases r with
          | ok t' q' =>
            have h5 := ((AtG.alloc HSP.out (.cells (nodeC op f mn mx (.slice ka kn kc)) 29))).grown HGR.out (fun e => by have := own_base HH9.out.row _ e; have := HLT.out; omega)
            rw [leftR_ok h5, HLR.out]
            have h1 := hrin.1; have h2 := hrin.2
            simp [Q.far] at h1; omega
          | no c y =>
            obtain ⟨pb, hS⟩ := HSP.out
            have h5 := (hS.alloc (.cells (nodeC op f mn mx (.slice ka kn kc)) 29)).grown HGR.out (fun e => by have := own_base HH9.out.row _ e; have := HLT.out; omega)
            rw [leftR_no h5 (by have := hrin.1; omega), HLR.out]
            omega
    · subst hv3
      have HPN := Lib.hid hpn; have HL9 := Lib.hid hl9; have HH := Lib.hid hH; have HA := Lib.hid ha; have HCC := Lib.hid hcc; have HPP := Lib.hid hpno
      clear hpn hl9 hH ha hcc hpno
      go_wp2_with fail
      refine (peek_bad g s pb o cc _ _ HA.out HCC.out).mono ?_
      rintro e9 wk0 ⟨rfl, hb⟩
      have HA9 := Lib.hid (HA.out.below hb); have HH9 := Lib.hid (HH.out.below HLT.out hb)
      clear hb
      go_wp2_with fail
      refine (many_any 2 (w.heap.size + 1) ps.length v ps _ HH9.out.row HH9.out.kids HPN.out HL9.out).mono ?_
      rintro e9 wn ⟨hb, kv, rfl, hK⟩
      have HN := Lib.hid (HH9.out.below HLT.out hb); have HBN := Lib.hid hb
      have HKN := Lib.hid (KAt.below hK hb hb.size)
      clear hb hK
      generalize many 2 (ps.map (·.1)) = T at *
      obtain ⟨op, f, mn, mx, kids⟩ := T
      obtain ⟨ka, kc, rfl⟩ := KAt.slice HKN.out
      obtain ⟨kn, hkn⟩ : ∃ kn, kn = kids.length := ⟨_, rfl⟩
      rw [← hkn] at HKN ⊢
      clear hkn
      have d0 : wn.cell? ⟨w.heap.size, 0, none⟩ = some (.int .i64 0) := (HN.out.cell).cell 0 _ rfl
      have d1 : wn.cell? ⟨w.heap.size, 1, none⟩ = some (.int .u64 0) := (HN.out.cell).cell 1 _ rfl
      have d2 : wn.cell? ⟨w.heap.size, 2, none⟩ = some (.int .u64 0) := (HN.out.cell).cell 2 _ rfl
      have d3 : wn.cell? ⟨w.heap.size, 3, none⟩ = some (.int .u64 0) := (HN.out.cell).cell 3 _ rfl
      have d4 : wn.cell? ⟨w.heap.size, 4, none⟩ = some (.int .u64 0) := (HN.out.cell).cell 4 _ rfl
      have d5 : wn.cell? ⟨w.heap.size, 5, none⟩ = some (.int .i64 0) := (HN.out.cell).cell 5 _ rfl
      have d6 : wn.cell? ⟨w.heap.size, 6, none⟩ = some (.int .i64 0) := (HN.out.cell).cell 6 _ rfl
      have d7 : wn.cell? ⟨w.heap.size, 7, none⟩ = some (.slice none 0 0) := (HN.out.cell).cell 7 _ rfl
      have f0 := (HN.out.cell).frozen 0; have f1 := (HN.out.cell).frozen 1; have f2 := (HN.out.cell).frozen 2; have f3 := (HN.out.cell).frozen 3
      have f4 := (HN.out.cell).frozen 4; have f5 := (HN.out.cell).frozen 5; have f6 := (HN.out.cell).frozen 6; have f7 := (HN.out.cell).frozen 7
      have HSZ := Lib.hid (show w.heap.size < wn.heap.size from HN.out.cell.lt)
      unfold nodeV
      dsimp only
      go_wp2_with fail
      refine bodyPost_ret (v := nodeV (.node op f mn mx kids) (.slice ka kn kc)) (by unfold nodeV; simp [results, Try.results61, go_sem, d0, d1, d2, d3, d4, d5, d6, d7]; try rfl) rfl ?_
      exact node_post (r := .no cc yy) HPP.out (⟨_, HA9.out.below HBN.out⟩) HN.out.only HLT.out HSZ.out HKN.out (fun _ _ h => by first | injection h | cases h)
end Go.Proofs.Ytofgkildlhcpdaa
/- The document's Reader: pattern. -/
set_option linter.unusedVariables false
set_option linter.unusedSimpArgs false
namespace Go.Proofs.Ytofgkildlhcpdaa
open Go.RowKit Bt
/-- where the reader stands between two rounds of pat -/
def patS (s : ByteArray) (g o : Nat) (x : Int) (p : Nat) (l : List Tree) (wr : World) : Prop :=
  (∃ q : Nat, AtG wr g 89 (rdr s (q : Int) (o : Int) 0 x) ∧ l.length ≤ q ∧ p < q ∧ q ≤ s.size ∧ ∀ r, P s (.patL l) o q r → P s .pat o p r) ∨ (∃ (c : Int) (y : Nat) (pb : Int), c ≠ 0 ∧ AtG wr g 89 (rdr s pb (o : Int) c (y : Int)) ∧ P s .pat o p (.no c y))
set_option maxRecDepth 100000 in
set_option maxHeartbeats 4000000 in
theorem pat_any (g : Nat) (s : ByteArray) (p o : Nat) (x : Int) (w : World) (h : AtG w g 89 (rdr s p o 0 x)) (hp : p ≤ s.size) (hm : s.size ≤ 1000) (ho2 : o ≤ 20) (hpat : PatC s g x (p + 1)) :
    Calls Try.prog 48 #[.pointer (some ⟨g, 0, none⟩)] w (NPost s g o x w .pat p) := by
  have HM := Lib.hid hm; have HLT := Lib.hid h.lt; have H0 := Lib.hid (atM_start h)
  have HFI := Lib.hid (part_any g s p o x (w.alloc (.cells nodeZ 29)) (AtG.alloc h _) hp hm ho2 hpat)
  have HO20 := Lib.hid ho2; have HPAT := Lib.hid hpat
  clear h ho2 hpat
  go_enter Try.func48, Try.ntmps48
  go_wp2_with fail
  refine (HFI.out).mono ?_
  rintro e9 w3 ⟨t, kv, rfl, hK, hO, r, hPr, hS, hi⟩
  obtain ⟨op, f, mn, mx, kids⟩ := t
  obtain ⟨ka, kc, rfl⟩ := KAt.slice hK
  obtain ⟨kn, hkn⟩ : ∃ kn, kn = kids.length := ⟨_, rfl⟩
  rw [← hkn] at hK ⊢
  clear hkn
  have hrin := P.in hPr hp
  have hw3 : w.heap.size < w3.heap.size := by have := hO.size; simp at this; omega
  have HH : Hid (Kids g w (.slice (some ⟨w3.heap.size, 0, none⟩) 1 1) [(.node op f mn mx kids, .slice ka kn kc)] (w3.alloc (.cells (nodeC op f mn mx (.slice ka kn kc)) 29))) := Lib.hid
    (Kids.start (H0.out.cell.only hO (by show ¬ (w.heap.size = g); have := HLT.out; omega)) (H0.out.only.tr hO) (by
      have : (w.alloc (.cells nodeZ 29)).heap.size = w.heap.size + 1 := by simp
      rw [this] at hK; exact hK))
  have HS0 : Hid (patS s g o x p [.node op f mn mx kids] (w3.alloc (.cells (nodeC op f mn mx (.slice ka kn kc)) 29))) := Lib.hid (by
    cases r with
    | ok t' q =>
      have := hi t' q rfl
      subst this
      exact .inl ⟨q, AtG.alloc hS _, by have := hrin.1; simp [Q.far] at *; omega, by have := hrin.1; simp [Q.far] at this; omega, hrin.2, fun r hr => P.patOk hPr hr⟩
    | no c y =>
      obtain ⟨pb, hS⟩ := hS
      exact .inr ⟨c, y, pb, by have := hrin.1; omega, hS.alloc _, P.patNo hPr⟩)
  clear hK hO hPr hS hi hrin hw3 hp
  unfold nodeV
  dsimp only
  go_wp2_with fail
  go_loopw [3] (fun t3 wr => ∃ (v : Value) (ps : List (Tree × Value)), v = t3 ∧ ps ≠ [] ∧ ps.length ≤ 1000 ∧ Kids g w v ps wr ∧ patS s g o x p (ps.map (·.1)) wr) (fun _ wr => leftR s g wr)
  case atStart => exact ⟨_, _, rfl, by simp, by simp, HH.out, HS0.out⟩
  case round =>
    clear HH HS0
    obtain ⟨v, ps, hv3, hpn, hl9, hH, ⟨q, ha, hlq, hpq, hq, hin⟩ | ⟨cc, yy, pb, hcc, ha, hpno⟩⟩ := hrel
    · subst hv3
      have HPN := Lib.hid hpn; have HL9 := Lib.hid hl9; have HH := Lib.hid hH; have HA := Lib.hid ha; have HQ := Lib.hid hq; have HIN := Lib.hid hin; have HLQ := Lib.hid hlq; have HPQ := Lib.hid hpq
      have HLR := Lib.hid (leftR_ok ha)
      have HPK := Lib.hid (fun w h => peek_any g s q o x w h)
      clear hpn hl9 hH ha hin hlq hpq
      by_cases h124 : ch s q = 124
      · have HC := Lib.hid h124
        have HQLT := Lib.hid (ch_ge (s := s) (p := q) (by omega))
        rw [h124] at HPK
        clear h124
        obtain ⟨qi, hqi⟩ : ∃ qi : Int, qi = (q : Int) := ⟨_, rfl⟩
        have hqi0 : 0 ≤ qi := by omega
        have hqi1 : qi < 1001 := by have := HM.out; omega
        have HQI := Lib.hid hqi
        clear hqi
        go_wp2_with fail
        refine (HPK.out _ HA.out).mono ?_
        rintro e9 wk0 ⟨rfl, hb⟩
        have hA1 := HA.out.below hb
        rw [← HQI.out] at hA1
        have HA1 := Lib.hid hA1; have HH1 := Lib.hid (HH.out.below HLT.out hb)
        have z1 : wk0.cell? ⟨g, 1, none⟩ = some (.int .i64 qi) := HA1.out.cell 1 _ rfl
        have x1 := HA1.out.frozen 1
        clear hb hA1
        have hat : AtG (wk0.setCell ⟨g, 1, none⟩ (.int .i64 (qi + 1))) g 89 (rdr s ((q + 1 : Nat) : Int) o 0 x) := by
          rw [show ((q + 1 : Nat) : Int) = qi + 1 from by have := HQI.out; omega]; exact HA1.out.set 1 _
        have HA9 := Lib.hid hat
        have HH9 := Lib.hid (HH1.out.next HLT.out ((Only.refl (S := fun k => k = g) wk0).st g 1 (.int .i64 (qi + 1)) (.inl rfl)))
        clear hat
        go_wp2_with fail
        refine (part_any g s (q + 1) o x _ HA9.out HQLT.out HM.out HO20.out (fun p' hp' => HPAT.out p' (by have := HPQ.out; omega))).mono ?_
        rintro e9 wp ⟨t, kv, rfl, hK, hO, r, hPr, hS, hi⟩
        obtain ⟨op, f, mn, mx, kids⟩ := t
        obtain ⟨ka, kc, rfl⟩ := KAt.slice hK
        obtain ⟨kn, hkn⟩ : ∃ kn, kn = kids.length := ⟨_, rfl⟩
        rw [← hkn] at hK ⊢
        clear hkn
        have HROW := Lib.hid (((HH9.out.next HLT.out hO).below HLT.out ((Below.refl wp.heap.size wp).alloc (Nat.le_refl _) (.cells (nodeC op f mn mx (.slice ka kn kc)) 29))).row)
        have HWS : Hid (w.heap.size + 1 ≤ wp.heap.size) := Lib.hid (by have := HH9.out.cell.lt; have := hO.size; omega)
        have HOP := Lib.hid hO; have HKP := Lib.hid hK; have HPR := Lib.hid hPr; have HSP := Lib.hid hS; have HIP := Lib.hid hi
        clear hK hO hPr hS hi
        unfold nodeV
        dsimp only
        go_wp2_with (at_builtin; go_must (refine wpList_appRowX rfl (.tmp 17) (.tmp 20) 27 rfl (w.heap.size + 1) 29 _ 8 80 Try.underlying27 infoNode rfl (by decide) v _ ps.length 1 (flatN ps) (nodeL (.node op f mn mx kids) (.slice ka kn kc)) HROW.out (src_at (AtG.new _ 29 _) 1) rfl rfl rfl (fun y hy => by unfold nodeL at hy; simp at hy; rcases hy with rfl | rfl | rfl | rfl | rfl | rfl | rfl | rfl <;> rfl) (by have := HL9.out; omega) (by decide) (by have := HWS.out; simp; omega) ?_); intro v' w4 hown hgr hbk; have HK4 := Lib.hid (HH9.out.more HLT.out HOP.out HKP.out hown hgr hbk); have HGR := Lib.hid hgr; clear hown hgr hbk)
        have hrin := P.in HPR.out HQLT.out
        have hlen : ps.length + 1 ≤ q + 1 := by have := HLQ.out; simp at this; omega
        have hqn : q < s.size := HQLT.out
        refine ⟨⟨v', ps ++ [(.node op f mn mx kids, .slice ka kn kc)], rfl, by simp, by have := HM.out; simp; omega, HK4.out, ?_⟩, ?_⟩
        · cases r with
          | ok t' q' =>
            have := HIP.out t' q' rfl
            subst this
            refine .inl ⟨q', ?_, by have := hrin.1; simp [Q.far] at *; omega, by have := hrin.1; have := HPQ.out; simp [Q.far] at *; omega, hrin.2, fun r hr => HIN.out _ (P.patMore HC.out HPR.out (by simpa using hr))⟩
            exact ((AtG.alloc HSP.out _)).grown HGR.out (fun e => by have := own_base HH9.out.row _ e; have := HLT.out; omega)
          | no c y =>
            obtain ⟨pb, hS⟩ := HSP.out
            exact .inr ⟨c, y, pb, by have := hrin.1; omega, (hS.alloc _).grown HGR.out (fun e => by have := own_base HH9.out.row _ e; have := HLT.out; omega), HIN.out _ (P.patBad HC.out HPR.out)⟩
        · cases r with
          | ok t' q' =>
            have h5 := ((AtG.alloc HSP.out (.cells (nodeC op f mn mx (.slice ka kn kc)) 29))).grown HGR.out (fun e => by have := own_base HH9.out.row _ e; have := HLT.out; omega)
            rw [leftR_ok h5, HLR.out]
            have h1 := hrin.1; have h2 := hrin.2
            simp [Q.far] at h1; omega
          | no c y =>
            obtain ⟨pb, hS⟩ := HSP.out
            have h5 := (hS.alloc (.cells (nodeC op f mn mx (.slice ka kn kc)) 29)).grown HGR.out (fun e => by have := own_base HH9.out.row _ e; have := HLT.out; omega)
            rw [leftR_no h5 (by have := hrin.1; omega), HLR.out]
            omega
      · have HPP : Hid (P s .pat o p (.ok (many 3 (ps.map (·.1))) q)) := Lib.hid (HIN.out _ (P.patEnd h124))
        have e1 : (ch s q == 124) = false := by rw [beq_eq_false_iff_ne]; exact h124
        generalize ch s q = c at *
        go_wp2_with fail
        refine (HPK.out _ HA.out).mono ?_
        rintro e9 wk0 ⟨rfl, hb⟩
        have HA9 := Lib.hid (HA.out.below hb); have HH9 := Lib.hid (HH.out.below HLT.out hb)
        clear hb
        go_wp2_with fail
        refine (many_any 3 (w.heap.size + 1) ps.length v ps _ HH9.out.row HH9.out.kids HPN.out HL9.out).mono ?_
        rintro e9 wn ⟨hb, kv, rfl, hK⟩
        have HN := Lib.hid (HH9.out.below HLT.out hb); have HBN := Lib.hid hb
        have HKN := Lib.hid (KAt.below hK hb hb.size)
        clear hb hK
        generalize many 3 (ps.map (·.1)) = T at *
        obtain ⟨op, f, mn, mx, kids⟩ := T
        obtain ⟨ka, kc, rfl⟩ := KAt.slice HKN.out
        obtain ⟨kn, hkn⟩ : ∃ kn, kn = kids.length := ⟨_, rfl⟩
        rw [← hkn] at HKN ⊢
        clear hkn
        have d0 : wn.cell? ⟨w.heap.size, 0, none⟩ = some (.int .i64 0) := (HN.out.cell).cell 0 _ rfl
        have d1 : wn.cell? ⟨w.heap.size, 1, none⟩ = some (.int .u64 0) := (HN.out.cell).cell 1 _ rfl
        have d2 : wn.cell? ⟨w.heap.size, 2, none⟩ = some (.int .u64 0) := (HN.out.cell).cell 2 _ rfl
        have d3 : wn.cell? ⟨w.heap.size, 3, none⟩ = some (.int .u64 0) := (HN.out.cell).cell 3 _ rfl
        have d4 : wn.cell? ⟨w.heap.size, 4, none⟩ = some (.int .u64 0) := (HN.out.cell).cell 4 _ rfl
        have d5 : wn.cell? ⟨w.heap.size, 5, none⟩ = some (.int .i64 0) := (HN.out.cell).cell 5 _ rfl
        have d6 : wn.cell? ⟨w.heap.size, 6, none⟩ = some (.int .i64 0) := (HN.out.cell).cell 6 _ rfl
        have d7 : wn.cell? ⟨w.heap.size, 7, none⟩ = some (.slice none 0 0) := (HN.out.cell).cell 7 _ rfl
        have f0 := (HN.out.cell).frozen 0; have f1 := (HN.out.cell).frozen 1; have f2 := (HN.out.cell).frozen 2; have f3 := (HN.out.cell).frozen 3
        have f4 := (HN.out.cell).frozen 4; have f5 := (HN.out.cell).frozen 5; have f6 := (HN.out.cell).frozen 6; have f7 := (HN.out.cell).frozen 7
        have HSZ := Lib.hid (show w.heap.size < wn.heap.size from HN.out.cell.lt)
        unfold nodeV
        dsimp only
        go_wp2_with fail
        refine bodyPost_ret (v := nodeV (.node op f mn mx kids) (.slice ka kn kc)) (by unfold nodeV; simp [results, Try.results48, go_sem, d0, d1, d2, d3, d4, d5, d6, d7]; try rfl) rfl ?_
        exact node_post (r := .ok (.node op f mn mx kids) q) HPP.out (HA9.out.below HBN.out) HN.out.only HLT.out HSZ.out HKN.out (fun _ _ h => by first | injection h | cases h)
    · subst hv3
      have HPN := Lib.hid hpn; have HL9 := Lib.hid hl9; have HH := Lib.hid hH; have HA := Lib.hid ha; have HCC := Lib.hid hcc; have HPP := Lib.hid hpno
      clear hpn hl9 hH ha hcc hpno
      go_wp2_with fail
      refine (peek_bad g s pb o cc _ _ HA.out HCC.out).mono ?_
      rintro e9 wk0 ⟨rfl, hb⟩
      have HA9 := Lib.hid (HA.out.below hb); have HH9 := Lib.hid (HH.out.below HLT.out hb)
      clear hb
      go_wp2_with fail
      refine (many_any 3 (w.heap.size + 1) ps.length v ps _ HH9.out.row HH9.out.kids HPN.out HL9.out).mono ?_
      rintro e9 wn ⟨hb, kv, rfl, hK⟩
      have HN := Lib.hid (HH9.out.below HLT.out hb); have HBN := Lib.hid hb
      have HKN := Lib.hid (KAt.below hK hb hb.size)
      clear hb hK
      generalize many 3 (ps.map (·.1)) = T at *
      obtain ⟨op, f, mn, mx, kids⟩ := T
      obtain ⟨ka, kc, rfl⟩ := KAt.slice HKN.out
      obtain ⟨kn, hkn⟩ : ∃ kn, kn = kids.length := ⟨_, rfl⟩
      rw [← hkn] at HKN ⊢
      clear hkn
      have d0 : wn.cell? ⟨w.heap.size, 0, none⟩ = some (.int .i64 0) := (HN.out.cell).cell 0 _ rfl
      have d1 : wn.cell? ⟨w.heap.size, 1, none⟩ = some (.int .u64 0) := (HN.out.cell).cell 1 _ rfl
      have d2 : wn.cell? ⟨w.heap.size, 2, none⟩ = some (.int .u64 0) := (HN.out.cell).cell 2 _ rfl
      have d3 : wn.cell? ⟨w.heap.size, 3, none⟩ = some (.int .u64 0) := (HN.out.cell).cell 3 _ rfl
      have d4 : wn.cell? ⟨w.heap.size, 4, none⟩ = some (.int .u64 0) := (HN.out.cell).cell 4 _ rfl
      have d5 : wn.cell? ⟨w.heap.size, 5, none⟩ = some (.int .i64 0) := (HN.out.cell).cell 5 _ rfl
      have d6 : wn.cell? ⟨w.heap.size, 6, none⟩ = some (.int .i64 0) := (HN.out.cell).cell 6 _ rfl
      have d7 : wn.cell? ⟨w.heap.size, 7, none⟩ = some (.slice none 0 0) := (HN.out.cell).cell 7 _ rfl
      have f0 := (HN.out.cell).frozen 0; have f1 := (HN.out.cell).frozen 1; have f2 := (HN.out.cell).frozen 2; have f3 := (HN.out.cell).frozen 3
      have f4 := (HN.out.cell).frozen 4; have f5 := (HN.out.cell).frozen 5; have f6 := (HN.out.cell).frozen 6; have f7 := (HN.out.cell).frozen 7
      have HSZ := Lib.hid (show w.heap.size < wn.heap.size from HN.out.cell.lt)
      unfold nodeV
      dsimp only
      go_wp2_with fail
      refine bodyPost_ret (v := nodeV (.node op f mn mx kids) (.slice ka kn kc)) (by unfold nodeV; simp [results, Try.results48, go_sem, d0, d1, d2, d3, d4, d5, d6, d7]; try rfl) rfl ?_
      exact node_post (r := .no cc yy) HPP.out (⟨_, HA9.out.below HBN.out⟩) HN.out.only HLT.out HSZ.out HKN.out (fun _ _ h => by first | injection h | cases h)
/-- pattern, from any place on -/
theorem patC_all (s : ByteArray) (g : Nat) (x : Int) (hm : s.size ≤ 1000) : ∀ k, PatC s g x (s.size + 1 - k) := by
  intro k
  induction k with
  | zero => intro p hp hp2; omega
  | succ k ih =>
    intro p hp hp2 o ho w h
    exact pat_any g s p o x w h hp2 hm ho (fun p' hp' => ih p' (by omega))
theorem pattern_any (g : Nat) (s : ByteArray) (p o : Nat) (x : Int) (w : World) (h : AtG w g 89 (rdr s p o 0 x)) (hp : p ≤ s.size) (hm : s.size ≤ 1000) (ho : o ≤ 20) :
    Calls Try.prog 48 #[.pointer (some ⟨g, 0, none⟩)] w (NPost s g o x w .pat p) := patC_all s g x hm (s.size + 1) p (by omega) hp o ho w h
end Go.Proofs.Ytofgkildlhcpdaa
/- The document's Parse. -/
set_option linter.unusedVariables false
set_option linter.unusedSimpArgs false
namespace Go.Proofs.Ytofgkildlhcpdaa
open Go.RowKit Bt
theorem putN_below {B : Nat} {w w1 : World} (h : Below B w w1) {g : Nat} (hg : B ≤ g) (op : Int) (f : Nat → Bool) (mn mx : Int) (kv : Value) : Below B w (putN w1 g op f mn mx kv) :=
  (((((((h.setCell (p := ⟨g, 0, none⟩) hg _).setCell (p := ⟨g, 1, none⟩) hg _).setCell (p := ⟨g, 2, none⟩) hg _).setCell (p := ⟨g, 3, none⟩) hg _).setCell (p := ⟨g, 4, none⟩) hg _).setCell (p := ⟨g, 5, none⟩) hg _).setCell (p := ⟨g, 6, none⟩) hg _).setCell (p := ⟨g, 7, none⟩) hg _
/-- the zero node stored over a whole block -/
def putZ (w : World) (g : Nat) : World :=
  (((((((w.setCell ⟨g, 0, none⟩ (.int .i64 0)).setCell ⟨g, 1, none⟩ (.int .u64 0)).setCell ⟨g, 2, none⟩ (.int .u64 0)).setCell ⟨g, 3, none⟩ (.int .u64 0)).setCell ⟨g, 4, none⟩ (.int .u64 0)).setCell ⟨g, 5, none⟩ (.int .i64 0)).setCell ⟨g, 6, none⟩ (.int .i64 0)).setCell ⟨g, 7, none⟩ (.slice none 0 0)
theorem putZ_eq (w : World) (g : Nat) : putZ w g = putN w g 0 emp 0 0 (.slice none 0 0) := by unfold putZ putN; rw [wd_emp, wd_emp, wd_emp, wd_emp]
theorem putZ_at {w : World} {g T : Nat} (h : AtG w g T nodeZ) : AtG (putZ w g) g T nodeZ := by
  rw [putZ_eq]
  have := putN_at h 0 emp 0 0 (.slice none 0 0)
  rw [wd_emp, wd_emp, wd_emp, wd_emp] at this
  exact this
def zeroN : Value := .agg #[.int .i64 0, .int .u64 0, .int .u64 0, .int .u64 0, .int .u64 0, .int .i64 0, .int .i64 0, .slice none 0 0]
set_option maxRecDepth 100000 in
theorem parse_long (s : ByteArray) (w : World) (h : 200 < s.size) : Calls Try.prog 32 #[.string s] w fun e w' => e = .returned (.tuple #[zeroN, .int .i64 4, .int .i64 0]) ∧ Below w.heap.size w w' := by
  have h1 : 200 < (s.size : Int) := by omega
  unfold zeroN
  go_enter Try.func32, Try.ntmps32
  go_wp2
  go_returns
  exact ⟨rfl, by go_grown⟩
/-- what Parse leaves -/
def ParsePost (s : ByteArray) (w : World) (e : Ending) (w' : World) : Prop :=
  Below w.heap.size w w' ∧ ∃ r, P s .pat 0 0 r ∧ match r with
    | .ok t _ => ∃ kv, e = .returned (.tuple #[nodeV t kv, .int .i64 0, .int .i64 0]) ∧ KAt (Iv w.heap.size w'.heap.size) w' t kv
    | .no c y => e = .returned (.tuple #[zeroN, .int .i64 c, .int .i64 (y : Int)])
set_option maxRecDepth 100000 in
set_option maxHeartbeats 1600000 in
theorem parse_any (s : ByteArray) (w : World) (h : s.size ≤ 200) : Calls Try.prog 32 #[.string s] w (ParsePost s w) := by
  have h1 : ¬ 200 < (s.size : Int) := by omega
  have HS := Lib.hid h
  obtain ⟨w0, hw0⟩ : ∃ w0 : World, w0 = (w.alloc (.cells nodeZ 29)).alloc (.cells (rdr s 0 0 0 0) 89) := ⟨_, rfl⟩
  have hsz0 : w0.heap.size = w.heap.size + 2 := by rw [hw0]; simp
  have hz0 : AtG w0 w.heap.size 29 nodeZ := by rw [hw0]; exact (AtG.new w _ _).alloc _
  have hr0 : AtG w0 (w.heap.size + 1) 89 (rdr s ((0 : Nat) : Int) ((0 : Nat) : Int) 0 0) := by
    rw [hw0]
    have := AtG.new (w.alloc (.cells nodeZ 29)) 89 (rdr s 0 0 0 0)
    simpa using this
  have hb0 : Below w.heap.size w w0 := by rw [hw0]; go_grown
  have HPT := Lib.hid (pattern_any (w.heap.size + 1) s 0 0 0 w0 hr0 (Nat.zero_le _) (by omega) (by omega))
  have HZ0 := Lib.hid hz0; have HB0 := Lib.hid hb0; have HSZ0 := Lib.hid hsz0
  clear hz0 hr0 hb0 hsz0 h
  have hun : (w.alloc (.cells nodeZ 29)).alloc (.cells (rdr s 0 0 0 0) 89) = (w.alloc (.cells #[.int .i64 0, .int .u64 0, .int .u64 0, .int .u64 0, .int .u64 0, .int .i64 0, .int .i64 0, .slice none 0 0] 29)).alloc (.cells #[.string s, .int .i64 0, .int .i64 0, .int .i64 0, .int .i64 0] 89) := rfl
  rw [hun] at hw0
  clear hun
  go_enter Try.func32, Try.ntmps32
  go_wp2_with fail
  rw [← hw0]
  have HW0 := Lib.hid hw0
  clear hw0
  refine (HPT.out).mono ?_
  rintro e9 w3 ⟨t, kv, rfl, hK, hO, r, hPr, hS, hi⟩
  obtain ⟨op, f, mn, mx, kids⟩ := t
  obtain ⟨ka, kc, rfl⟩ := KAt.slice hK
  obtain ⟨kn, hkn⟩ : ∃ kn, kn = kids.length := ⟨_, rfl⟩
  rw [← hkn] at hK ⊢
  clear hkn
  have hz3 := HZ0.out.only hO (by show ¬ (w.heap.size = w.heap.size + 1); omega)
  have hb3 := HB0.out.trans (hO.below (B := w.heap.size) (by have := HSZ0.out; omega) (fun k hk => by subst hk; omega))
  have hsz3 : w.heap.size + 2 ≤ w3.heap.size := by have := hO.size; have := HSZ0.out; omega
  have hin := P.in hPr (Nat.zero_le _)
  have hcc : ∀ c y, r = .no c y → c ≠ 0 := fun c y e => by rw [e] at hin; have := hin.1; omega
  have HK := Lib.hid hK; have HPR := Lib.hid hPr; have HI := Lib.hid hi; have HZ3 := Lib.hid hz3; have HB3 := Lib.hid hb3; have HS3 := Lib.hid hS; have HSZ3 := Lib.hid hsz3
  clear hK hO hPr hi hz3 hb3 hS hsz3 hin
  unfold nodeV
  dsimp only
  cases r with
  | ok t' q =>
    have := HI.out t' q rfl
    subst this
    have hg : AtG w3 (w.heap.size + 1) 89 (rdr s (q : Int) ((0 : Nat) : Int) 0 0) := HS3.out
    have HG := Lib.hid (hg.alloc (.cells (nodeC op f mn mx (.slice ka kn kc)) 29))
    have z3 : (w3.alloc (.cells (nodeC op f mn mx (.slice ka kn kc)) 29)).cell? ⟨w.heap.size + 1, 3, none⟩ = some (.int .i64 0) := HG.out.cell 3 _ rfl
    have HN := Lib.hid (AtG.new w3 29 (nodeC op f mn mx (.slice ka kn kc)))
    have HZ4 := Lib.hid (HZ3.out.alloc (.cells (nodeC op f mn mx (.slice ka kn kc)) 29))
    have g3 : w3.cell? ⟨w.heap.size + 1, 3, none⟩ = some (.int .i64 0) := hg.cell 3 _ rfl
    have hlt1 := hg.lt
    have hnw : ¬ w.heap.size + 1 = w3.heap.size := by omega
    clear hcc hg z3
    go_upto_region 7 with (fail)
    obtain ⟨w4, hw4⟩ : ∃ w4 : World, w4 = w3.alloc (.cells (nodeC op f mn mx (.slice ka kn kc)) 29) := ⟨_, rfl⟩
    have hw4' : w3.alloc (.cells #[.int .i64 op, .int .u64 ((wd f 0 : Nat) : Int), .int .u64 ((wd f 1 : Nat) : Int), .int .u64 ((wd f 2 : Nat) : Int), .int .u64 ((wd f 3 : Nat) : Int), .int .i64 mn, .int .i64 mx, .slice ka kn kc] 29) = w4 := hw4.symm
    rw [hw4']
    rw [← hw4] at HN HZ4
    have HK4 : Hid (KAt (Iv (w.heap.size + 1) w4.heap.size) w4 (.node op f mn mx kids) (.slice ka kn kc)) := Lib.hid (by
      rw [hw4]
      exact KAt.keep (fun b hb => ((Below.refl w3.heap.size w3).alloc (Nat.le_refl _) _).block b hb.2) (fun b hb => ⟨by have := hb.1; have := HSZ0.out; omega, by have := hb.2; simp; omega⟩) _ _ HK.out)
    have HB4 : Hid (Below w.heap.size w w4) := Lib.hid (by rw [hw4]; exact HB3.out.alloc HB3.out.size _)
    have hlt0 : w.heap.size < w3.heap.size := by omega
    have hn3 : w3.heap.size ≠ w.heap.size := by omega
    have hn4 : w.heap.size ≠ w3.heap.size := by omega
    clear hw4 hw4' g3 hlt1 hnw
    have k0 : w4.cell? ⟨w3.heap.size, 0, none⟩ = some (.int .i64 op) := HN.out.cell 0 _ rfl
    have k1 : w4.cell? ⟨w3.heap.size, 1, none⟩ = some (.int .u64 ((wd f 0 : Nat) : Int)) := HN.out.cell 1 _ rfl
    have k2 : w4.cell? ⟨w3.heap.size, 2, none⟩ = some (.int .u64 ((wd f 1 : Nat) : Int)) := HN.out.cell 2 _ rfl
    have k3 : w4.cell? ⟨w3.heap.size, 3, none⟩ = some (.int .u64 ((wd f 2 : Nat) : Int)) := HN.out.cell 3 _ rfl
    have k4 : w4.cell? ⟨w3.heap.size, 4, none⟩ = some (.int .u64 ((wd f 3 : Nat) : Int)) := HN.out.cell 4 _ rfl
    have k5 : w4.cell? ⟨w3.heap.size, 5, none⟩ = some (.int .i64 mn) := HN.out.cell 5 _ rfl
    have k6 : w4.cell? ⟨w3.heap.size, 6, none⟩ = some (.int .i64 mx) := HN.out.cell 6 _ rfl
    have k7 : w4.cell? ⟨w3.heap.size, 7, none⟩ = some (.slice ka kn kc) := HN.out.cell 7 _ rfl
    have d0 : w4.cell? ⟨w.heap.size, 0, none⟩ = some (.int .i64 0) := (HZ4.out).cell 0 _ rfl
    have d1 : w4.cell? ⟨w.heap.size, 1, none⟩ = some (.int .u64 0) := (HZ4.out).cell 1 _ rfl
    have d2 : w4.cell? ⟨w.heap.size, 2, none⟩ = some (.int .u64 0) := (HZ4.out).cell 2 _ rfl
    have d3 : w4.cell? ⟨w.heap.size, 3, none⟩ = some (.int .u64 0) := (HZ4.out).cell 3 _ rfl
    have d4 : w4.cell? ⟨w.heap.size, 4, none⟩ = some (.int .u64 0) := (HZ4.out).cell 4 _ rfl
    have d5 : w4.cell? ⟨w.heap.size, 5, none⟩ = some (.int .i64 0) := (HZ4.out).cell 5 _ rfl
    have d6 : w4.cell? ⟨w.heap.size, 6, none⟩ = some (.int .i64 0) := (HZ4.out).cell 6 _ rfl
    have d7 : w4.cell? ⟨w.heap.size, 7, none⟩ = some (.slice none 0 0) := (HZ4.out).cell 7 _ rfl
    have f0 := (HZ4.out).frozen 0; have f1 := (HZ4.out).frozen 1; have f2 := (HZ4.out).frozen 2; have f3 := (HZ4.out).frozen 3
    have f4 := (HZ4.out).frozen 4; have f5 := (HZ4.out).frozen 5; have f6 := (HZ4.out).frozen 6; have f7 := (HZ4.out).frozen 7
    go_wp2_with fail
    refine bodyPost_ret (v := .tuple #[nodeV (.node op f mn mx kids) (.slice ka kn kc), .int .i64 0, .int .i64 0]) (by unfold nodeV; simp [results, Try.results32, go_sem, d0, d1, d2, d3, d4, d5, d6, d7, hn3, hn4]; try rfl) rfl ?_
    show ParsePost s w _ (putN w4 w.heap.size op f mn mx (.slice ka kn kc))
    refine ⟨?_, _, HPR.out, .slice ka kn kc, rfl, ?_⟩
    · exact putN_below HB4.out (Nat.le_refl _) _ _ _ _ _
    · rw [putN_size]
      exact KAt.keep (fun b hb => putN_block _ _ _ _ _ _ _ b (by have := hb.1; omega) hb.2) (fun b hb => ⟨by have := hb.1; omega, hb.2⟩) _ _ HK4.out
  | no c y =>
    obtain ⟨pb, hS⟩ := HS3.out
    have hc := hcc c y rfl
    have ec : (c == 0) = false := by rw [beq_eq_false_iff_ne]; exact hc
    have HS := Lib.hid hS
    have g3 : w3.cell? ⟨w.heap.size + 1, 3, none⟩ = some (.int .i64 c) := hS.cell 3 _ rfl
    have hlt1 := hS.lt
    have hnw : ¬ w.heap.size + 1 = w3.heap.size := by omega
    clear hcc hS
    go_upto_region 6 with (fail)
    obtain ⟨w4, hw4⟩ : ∃ w4 : World, w4 = w3.alloc (.cells (nodeC op f mn mx (.slice ka kn kc)) 29) := ⟨_, rfl⟩
    have hw4' : w3.alloc (.cells #[.int .i64 op, .int .u64 ((wd f 0 : Nat) : Int), .int .u64 ((wd f 1 : Nat) : Int), .int .u64 ((wd f 2 : Nat) : Int), .int .u64 ((wd f 3 : Nat) : Int), .int .i64 mn, .int .i64 mx, .slice ka kn kc] 29) = w4 := hw4.symm
    rw [hw4']
    have HZ4 : Hid (AtG w4 w.heap.size 29 nodeZ) := Lib.hid (by rw [hw4]; exact HZ3.out.alloc _)
    have HS4 : Hid (AtG w4 (w.heap.size + 1) 89 (rdr s pb ((0 : Nat) : Int) c (y : Int))) := Lib.hid (by rw [hw4]; exact HS.out.alloc _)
    have HB4 : Hid (Below w.heap.size w w4) := Lib.hid (by rw [hw4]; exact HB3.out.alloc HB3.out.size _)
    clear hw4 hw4' g3 hlt1 hnw
    refine RgX.start (by kernel_rfl) [(9, fun w5 w6 => w6 = putZ w5 w.heap.size)] [⟨fun w5 => AtG w5 (w.heap.size + 1) 89 (rdr s pb ((0 : Nat) : Int) c (y : Int)) ∧ Below w.heap.size w w5, none⟩, ⟨fun w5 => AtG w5 w.heap.size 29 nodeZ, some 9⟩] ⟨⟨fun _ _ h hb => ⟨h.1.below hb, h.2.trans (hb.mono h.2.size)⟩, ⟨fun _ _ _ _ => (fun w5 w6 h he => by subst he; rw [putZ_eq]; exact ⟨putN_far h.1 (by omega) _ _ _ _ _, putN_below h.2 (Nat.le_refl _) _ _ _ _ _⟩), trivial⟩⟩, ⟨fun _ _ h hb => h.below hb, ⟨fun _ h _ _ => absurd rfl h, trivial⟩⟩, trivial⟩ (by kernel_rfl) (by kernel_rfl) ⟨⟨HS4.out.drew, HB4.out.drew⟩, HZ4.out.drew, trivial⟩ ?_
    show RgX.Build _ _ _ _ _ _ 0 [_, _, _, _, _, _, _, _, _, _, _, _] []
    refine RgX.build_cons (m := 1) (r := RgX.eq _) (RgX.one_plain (by rfl) (by (intro ax wx hk Kx hK; have hL := hk.fact 0 0 _ rfl rfl; (try dsimp only at hL); have hz := hk.fact 1 1 _ rfl rfl; (try dsimp only at hz); clear hk; go_simp; refine hK _ _ (fun h => by cases h) (fun _ _ => ?_) (Below.refl _ _); apply RgX.mk))) ?_ rfl RgX.keep_eq (fun _ h => by cases h)
    refine RgX.build_cons (m := 2) (r := RgX.eq _) (RgX.one_plain (by rfl) (by (intro ax wx hk Kx hK; have k5 := hk.base 5 _ rfl rfl; have hL := hk.fact 0 0 _ rfl rfl; (try dsimp only at hL); clear hk; go_simp; refine hK _ _ (fun h => by cases h) (fun _ _ => ?_) (Below.refl _ _); apply RgX.mk))) ?_ rfl RgX.keep_eq (fun _ h => by cases h)
    refine RgX.build_cons (m := 3) (r := RgX.eq _) (RgX.one_plain (by rfl) (by (intro ax wx hk Kx hK; obtain ⟨v22, k22, h22⟩ := hk.dep 0 1 22 _ rfl rfl rfl; (first | (replace h22 := h22 9 undef rfl rfl; first | (cases (h22 : v22 = _)) | (obtain ⟨rfl, h22⟩ := h22) | skip) | skip); have hL := hk.fact 0 0 _ rfl rfl; (try dsimp only at hL); clear hk; go_simp; refine hK _ _ (fun h => by cases h) (fun _ _ => ?_) (Below.refl _ _); apply RgX.mk))) ?_ rfl RgX.keep_eq (fun _ h => by cases h)
    refine RgX.build_cons (m := 4) (r := RgX.eq _) (RgX.one_plain (by rfl) (by (intro ax wx hk Kx hK; obtain ⟨v23, k23, h23⟩ := hk.dep 0 2 23 _ rfl rfl rfl; (first | (replace h23 := h23 9 undef rfl rfl; first | (cases (h23 : v23 = _)) | (obtain ⟨rfl, h23⟩ := h23) | skip) | skip); have hL := hk.fact 0 0 _ rfl rfl; (try dsimp only at hL); clear hk; go_simp; refine hK _ _ (fun h => by cases h) (fun _ _ => ?_) (Below.refl _ _); apply RgX.mk))) ?_ rfl RgX.keep_eq (fun _ h => by cases h)
    refine RgX.build_cons (m := 5) (r := RgX.eq _) (RgX.one_plain (by rfl) (by (intro ax wx hk Kx hK; obtain ⟨v24, k24, h24⟩ := hk.dep 0 3 24 _ rfl rfl rfl; (first | (replace h24 := h24 9 undef rfl rfl; first | (cases (h24 : v24 = _)) | (obtain ⟨rfl, h24⟩ := h24) | skip) | skip); have hL := hk.fact 0 0 _ rfl rfl; (try dsimp only at hL); clear hk; have z0 : wx.cell? ⟨w.heap.size + 1, 3, none⟩ = some (.int .i64 c) := hL.1.cell 3 _ rfl; go_simp; refine hK _ _ (fun h => by cases h) (fun _ _ => ?_) (Below.refl _ _); apply RgX.mk))) ?_ rfl RgX.keep_eq (fun _ h => by cases h)
    refine RgX.build_cons (m := 6) (r := RgX.eq _) (RgX.one_plain (by rfl) (by (intro ax wx hk Kx hK; have k5 := hk.base 5 _ rfl rfl; have hL := hk.fact 0 0 _ rfl rfl; (try dsimp only at hL); clear hk; go_simp; refine hK _ _ (fun h => by cases h) (fun _ _ => ?_) (Below.refl _ _); apply RgX.mk))) ?_ rfl RgX.keep_eq (fun _ h => by cases h)
    refine RgX.build_cons (m := 7) (r := RgX.eq _) (RgX.one_plain (by rfl) (by (intro ax wx hk Kx hK; obtain ⟨v26, k26, h26⟩ := hk.dep 0 5 26 _ rfl rfl rfl; (first | (replace h26 := h26 9 undef rfl rfl; first | (cases (h26 : v26 = _)) | (obtain ⟨rfl, h26⟩ := h26) | skip) | skip); have hL := hk.fact 0 0 _ rfl rfl; (try dsimp only at hL); clear hk; go_simp; refine hK _ _ (fun h => by cases h) (fun _ _ => ?_) (Below.refl _ _); apply RgX.mk))) ?_ rfl RgX.keep_eq (fun _ h => by cases h)
    refine RgX.build_cons (m := 8) (r := RgX.eq _) (RgX.one_plain (by rfl) (by (intro ax wx hk Kx hK; obtain ⟨v27, k27, h27⟩ := hk.dep 0 6 27 _ rfl rfl rfl; (first | (replace h27 := h27 9 undef rfl rfl; first | (cases (h27 : v27 = _)) | (obtain ⟨rfl, h27⟩ := h27) | skip) | skip); have hL := hk.fact 0 0 _ rfl rfl; (try dsimp only at hL); clear hk; go_simp; refine hK _ _ (fun h => by cases h) (fun _ _ => ?_) (Below.refl _ _); apply RgX.mk))) ?_ rfl RgX.keep_eq (fun _ h => by cases h)
    refine RgX.build_cons (m := 9) (r := RgX.eq _) (RgX.one_plain (by rfl) (by (intro ax wx hk Kx hK; obtain ⟨v28, k28, h28⟩ := hk.dep 0 7 28 _ rfl rfl rfl; (first | (replace h28 := h28 9 undef rfl rfl; first | (cases (h28 : v28 = _)) | (obtain ⟨rfl, h28⟩ := h28) | skip) | skip); have hL := hk.fact 0 0 _ rfl rfl; (try dsimp only at hL); clear hk; have z0 : wx.cell? ⟨w.heap.size + 1, 4, none⟩ = some (.int .i64 (y : Int)) := hL.1.cell 4 _ rfl; go_simp; refine hK _ _ (fun h => by cases h) (fun _ _ => ?_) (Below.refl _ _); apply RgX.mk))) ?_ rfl RgX.keep_eq (fun _ h => by cases h)
    refine RgX.build_cons (m := 10) (r := (⟨fun _ _ w5 => AtG w5 w.heap.size 29 nodeZ, none, none⟩ : RgX.Rl)) (RgX.one_plain (by rfl) (by (intro ax wx hk Kx hK; have k2 := hk.base 2 _ rfl rfl; obtain ⟨v21, k21, h21⟩ := hk.dep 0 0 21 _ rfl rfl rfl; (first | (replace h21 := h21 9 undef rfl rfl; first | (cases (h21 : v21 = _)) | (obtain ⟨rfl, h21⟩ := h21) | skip) | skip); have hL := hk.fact 0 0 _ rfl rfl; (try dsimp only at hL); have hz := hk.fact 1 0 _ rfl rfl; (try dsimp only at hz); clear hk; (have d0 : wx.cell? ⟨w.heap.size, 0, none⟩ = some (.int .i64 0) := hz.cell 0 _ rfl; have d1 : wx.cell? ⟨w.heap.size, 1, none⟩ = some (.int .u64 0) := hz.cell 1 _ rfl; have d2 : wx.cell? ⟨w.heap.size, 2, none⟩ = some (.int .u64 0) := hz.cell 2 _ rfl; have d3 : wx.cell? ⟨w.heap.size, 3, none⟩ = some (.int .u64 0) := hz.cell 3 _ rfl; have d4 : wx.cell? ⟨w.heap.size, 4, none⟩ = some (.int .u64 0) := hz.cell 4 _ rfl; have d5 : wx.cell? ⟨w.heap.size, 5, none⟩ = some (.int .i64 0) := hz.cell 5 _ rfl; have d6 : wx.cell? ⟨w.heap.size, 6, none⟩ = some (.int .i64 0) := hz.cell 6 _ rfl; have d7 : wx.cell? ⟨w.heap.size, 7, none⟩ = some (.slice none 0 0) := hz.cell 7 _ rfl; have f0 := hz.frozen 0; have f1 := hz.frozen 1; have f2 := hz.frozen 2; have f3 := hz.frozen 3; have f4 := hz.frozen 4; have f5 := hz.frozen 5; have f6 := hz.frozen 6; have f7 := hz.frozen 7; go_simp; exact hK undef (putZ wx w.heap.size) (fun _ => rfl) (fun u hu => putZ_at hz) rfl)))) ?_ rfl (RgX.keep_r (fun _ _ _ _ h hb => h.below hb) (fun _ _ => ⟨fun h _ _ _ => absurd rfl h, trivial⟩)) (fun _ h => by cases h)
    refine RgX.build_cons (m := 11) (r := RgX.eq _) (RgX.one_plain (by rfl) (by (intro ax wx hk Kx hK; obtain ⟨v25, k25, h25⟩ := hk.dep 0 4 25 _ rfl rfl rfl; (first | (replace h25 := h25 9 undef rfl rfl; first | (cases (h25 : v25 = _)) | (obtain ⟨rfl, h25⟩ := h25) | skip) | skip); have hL := hk.fact 0 0 _ rfl rfl; (try dsimp only at hL); clear hk; go_simp; refine hK _ _ (fun h => by cases h) (fun _ _ => ?_) (Below.refl _ _); apply RgX.mk))) ?_ rfl RgX.keep_eq (fun _ h => by cases h)
    refine RgX.build_cons (m := 12) (r := RgX.eq _) (RgX.one_plain (by rfl) (by (intro ax wx hk Kx hK; obtain ⟨v29, k29, h29⟩ := hk.dep 0 8 29 _ rfl rfl rfl; (first | (replace h29 := h29 9 undef rfl rfl; first | (cases (h29 : v29 = _)) | (obtain ⟨rfl, h29⟩ := h29) | skip) | skip); have hL := hk.fact 0 0 _ rfl rfl; (try dsimp only at hL); clear hk; go_simp; refine hK _ _ (fun h => by cases h) (fun _ _ => ?_) (Below.refl _ _); apply RgX.mk))) ?_ rfl RgX.keep_eq (fun _ h => by cases h)
    refine RgX.build_end fun wx hj => ?_
    have hL := hj 0 _ rfl rfl
    clear hj
    refine RgX.fin_eq rfl ?_
    refine RgX.fin_eq rfl ?_
    refine RgX.fin_eq rfl ?_
    refine RgX.fin_eq rfl ?_
    refine RgX.fin_eq rfl ?_
    refine RgX.fin_eq rfl ?_
    refine RgX.fin_eq rfl ?_
    refine RgX.fin_eq rfl ?_
    refine RgX.fin_eq rfl ?_
    refine RgX.fin_none rfl fun s9 => ?_
    refine RgX.fin_eq rfl ?_
    refine RgX.fin_eq rfl ?_
    refine RgX.fin_nil ?_
    simp only [List.set_cons_zero, List.set_cons_succ]
    have hz5 := s9 rfl undef rfl
    have hb5 := hL.2
    clear s9 hL
    have HB5 := Lib.hid hb5
    have d0 : wx.cell? ⟨w.heap.size, 0, none⟩ = some (.int .i64 0) := (hz5).cell 0 _ rfl
    have d1 : wx.cell? ⟨w.heap.size, 1, none⟩ = some (.int .u64 0) := (hz5).cell 1 _ rfl
    have d2 : wx.cell? ⟨w.heap.size, 2, none⟩ = some (.int .u64 0) := (hz5).cell 2 _ rfl
    have d3 : wx.cell? ⟨w.heap.size, 3, none⟩ = some (.int .u64 0) := (hz5).cell 3 _ rfl
    have d4 : wx.cell? ⟨w.heap.size, 4, none⟩ = some (.int .u64 0) := (hz5).cell 4 _ rfl
    have d5 : wx.cell? ⟨w.heap.size, 5, none⟩ = some (.int .i64 0) := (hz5).cell 5 _ rfl
    have d6 : wx.cell? ⟨w.heap.size, 6, none⟩ = some (.int .i64 0) := (hz5).cell 6 _ rfl
    have d7 : wx.cell? ⟨w.heap.size, 7, none⟩ = some (.slice none 0 0) := (hz5).cell 7 _ rfl
    have f0 := (hz5).frozen 0; have f1 := (hz5).frozen 1; have f2 := (hz5).frozen 2; have f3 := (hz5).frozen 3
    have f4 := (hz5).frozen 4; have f5 := (hz5).frozen 5; have f6 := (hz5).frozen 6; have f7 := (hz5).frozen 7
    clear hz5 hb5
    go_wp2_with fail
    refine bodyPost_ret (v := .tuple #[zeroN, .int .i64 c, .int .i64 (y : Int)]) (by unfold zeroN; simp [results, Try.results32, go_sem, d0, d1, d2, d3, d4, d5, d6, d7]; try rfl) rfl ?_
    exact ⟨HB5.out, _, HPR.out, rfl⟩
end Go.Proofs.Ytofgkildlhcpdaa
/- Patterns and their words, in plain words. -/
set_option linter.unusedVariables false
namespace Go.Proofs.Ytofgkildlhcpdaa
/-- a pattern -/
inductive Pat where
  | one (s : Nat → Bool)
  | cat (l : List Pat)
  | alt (l : List Pat)
  | rep (mn mx : Nat) (p : Pat)
/-- R, t times -/
def It (R : Nat → Nat → Prop) : Nat → Nat → Nat → Prop
  | 0, j, i => i = j
  | t + 1, j, i => ∃ k, It R t j k ∧ R k i
mutual
/-- of the bytes b (n of them) those from j up to i are a word -/
def Mt (b : Nat → Nat) (n : Nat) : Pat → Nat → Nat → Prop
  | .one s, j, i => i = j + 1 ∧ j < n ∧ s (b j) = true
  | .cat l, j, i => MtC b n l j i
  | .alt l, j, i => MtA b n l j i
  | .rep mn mx p, j, i => ∃ t, mn ≤ t ∧ t ≤ mx ∧ It (Mt b n p) t j i
def MtC (b : Nat → Nat) (n : Nat) : List Pat → Nat → Nat → Prop
  | [], j, i => i = j
  | p :: l, j, i => ∃ k, Mt b n p j k ∧ MtC b n l k i
def MtA (b : Nat → Nat) (n : Nat) : List Pat → Nat → Nat → Prop
  | [], _, _ => False
  | p :: l, j, i => Mt b n p j i ∨ MtA b n l j i
end
/-- where R leads from S -/
def img (R : Nat → Nat → Prop) (S : Nat → Prop) : Nat → Prop := fun i => ∃ j, S j ∧ R j i
def imgN (R : Nat → Nat → Prop) (S : Nat → Prop) : Nat → (Nat → Prop)
  | 0 => S
  | t + 1 => img R (imgN R S t)
theorem imgN_iff (R : Nat → Nat → Prop) (S : Nat → Prop) (t : Nat) : ∀ i, imgN R S t i ↔ ∃ j, S j ∧ It R t j i := by
  induction t with
  | zero => intro i; exact ⟨fun h => ⟨i, h, rfl⟩, fun ⟨j, h, e⟩ => by cases e; exact h⟩
  | succ t ih =>
    intro i
    constructor
    · rintro ⟨k, h1, h2⟩
      obtain ⟨j, h3, h4⟩ := (ih k).1 h1
      exact ⟨j, h3, k, h4, h2⟩
    · rintro ⟨j, h3, k, h4, h2⟩
      exact ⟨k, (ih k).2 ⟨j, h3, h4⟩, h2⟩
theorem img_congr {R : Nat → Nat → Prop} {S T : Nat → Prop} (h : ∀ i, S i ↔ T i) (i : Nat) : img R S i ↔ img R T i :=
  ⟨fun ⟨j, h1, h2⟩ => ⟨j, (h j).1 h1, h2⟩, fun ⟨j, h1, h2⟩ => ⟨j, (h j).2 h1, h2⟩⟩
/-- what stays once stays for good -/
theorem imgN_stay {R : Nat → Nat → Prop} {S : Nat → Prop} {t : Nat} (h : ∀ i, img R (imgN R S t) i ↔ imgN R S t i) (d : Nat) : ∀ i, imgN R S (t + d) i ↔ imgN R S t i := by
  induction d with
  | zero => exact fun i => Iff.rfl
  | succ d ih => exact fun i => (img_congr ih i).trans (h i)
theorem rep_stop {R : Nat → Nat → Prop} {S : Nat → Prop} {t mn mx : Nat} (h : ∀ i, img R (imgN R S t) i ↔ imgN R S t i) (ht : t ≤ mx) (hm : mn ≤ mx) (i : Nat) :
    (∃ u, mn ≤ u ∧ u ≤ mx ∧ imgN R S u i) ↔ ((∃ u, mn ≤ u ∧ u < t ∧ imgN R S u i) ∨ imgN R S t i) := by
  constructor
  · rintro ⟨u, h1, h2, h3⟩
    by_cases hu : u < t
    · exact .inl ⟨u, h1, hu, h3⟩
    · obtain ⟨d, rfl⟩ := Nat.exists_eq_add_of_le (show t ≤ u by omega)
      exact .inr ((imgN_stay h d i).1 h3)
  · rintro (⟨u, h1, h2, h3⟩ | h3)
    · exact ⟨u, h1, by omega, h3⟩
    · by_cases hu : mn ≤ t
      · exact ⟨t, hu, ht, h3⟩
      · obtain ⟨d, hd⟩ := Nat.exists_eq_add_of_le (show t ≤ mn by omega)
        subst hd
        exact ⟨t + d, Nat.le_refl _, hm, (imgN_stay h d i).2 h3⟩
/-- what a pattern of repetitions leads to -/
theorem mt_rep (b : Nat → Nat) (n mn mx : Nat) (p : Pat) (S : Nat → Prop) (i : Nat) : img (Mt b n (.rep mn mx p)) S i ↔ ∃ u, mn ≤ u ∧ u ≤ mx ∧ imgN (Mt b n p) S u i := by
  constructor
  · rintro ⟨j, h1, h2⟩
    rw [Mt] at h2
    obtain ⟨t, h3, h4, h5⟩ := h2
    exact ⟨t, h3, h4, (imgN_iff _ _ _ _).2 ⟨j, h1, h5⟩⟩
  · rintro ⟨u, h1, h2, h3⟩
    obtain ⟨j, h4, h5⟩ := (imgN_iff _ _ _ _).1 h3
    exact ⟨j, h4, by rw [Mt]; exact ⟨u, h1, h2, h5⟩⟩
theorem mt_cat_nil (b : Nat → Nat) (n : Nat) (S : Nat → Prop) (i : Nat) : img (MtC b n []) S i ↔ S i := by
  constructor
  · rintro ⟨j, h1, h2⟩
    rw [MtC] at h2
    subst h2; exact h1
  · exact fun h => ⟨i, h, by rw [MtC]⟩
theorem mt_cat_cons (b : Nat → Nat) (n : Nat) (p : Pat) (l : List Pat) (S : Nat → Prop) (i : Nat) : img (MtC b n (p :: l)) S i ↔ img (MtC b n l) (img (Mt b n p) S) i := by
  constructor
  · rintro ⟨j, h1, h2⟩
    rw [MtC] at h2
    obtain ⟨k, h3, h4⟩ := h2
    exact ⟨k, ⟨j, h1, h3⟩, h4⟩
  · rintro ⟨k, ⟨j, h1, h3⟩, h4⟩
    exact ⟨j, h1, by rw [MtC]; exact ⟨k, h3, h4⟩⟩
end Go.Proofs.Ytofgkildlhcpdaa
/- The grammar tells one thing of each text; what it tells is a pattern. -/
set_option linter.unusedVariables false
namespace Go.Proofs.Ytofgkildlhcpdaa
theorem P.det {s : ByteArray} {q : Q} {o p : Nat} {r : Re Tree} (h : P s q o p r) : ∀ r', P s q o p r' → r = r' := by
  induction h with
  | plain h => intro r' h'; cases h' with | plain => rfl | deep h1 => exact absurd h1 h | sub h1 => exact absurd h1 h
  | deep h h1 => intro r' h'; cases h' with | plain h2 => exact absurd h h2 | deep => rfl | sub h2 h3 => exact absurd h1 h3
  | sub h h1 h2 ih => intro r' h'; cases h' with | plain h3 => exact absurd h h3 | deep h3 h4 => exact absurd h4 h1 | sub h3 h4 h5 => rw [ih _ h5]
  | pieceNo h ih => intro r' h'; cases h' with | pieceNo h1 => exact ih _ h1 | pieceOk h1 h2 => cases ih _ h1
  | pieceOk h h1 ih ih1 => intro r' h'; cases h' with | pieceNo h2 => cases ih _ h2 | pieceOk h2 h3 => cases ih _ h2; exact ih1 _ h3
  | opt h h1 ih => intro r' h'; cases h' with | opt h2 h3 => exact ih _ h3 | times h2 => omega | timesNo h2 => omega | pieceEnd h2 => exact absurd h h2
  | times h h1 h2 ih => intro r' h'; cases h' with | opt h3 => omega | times h3 h4 h5 => rw [h1] at h4; cases h4; exact ih _ h5 | timesNo h3 h4 => rw [h1] at h4; cases h4 | pieceEnd h3 h4 => exact absurd h h4
  | timesNo h h1 => intro r' h'; cases h' with | opt h3 => omega | times h3 h4 h5 => rw [h1] at h4; cases h4 | timesNo h3 h4 => rw [h1] at h4; cases h4; rfl | pieceEnd h3 h4 => exact absurd h h4
  | pieceEnd h h1 => intro r' h'; cases h' with | opt h3 => exact absurd h3 h | times h3 => exact absurd h3 h1 | timesNo h3 => exact absurd h3 h1 | pieceEnd => rfl
  | partNo h ih => intro r' h'; cases h' with | partNo h1 => exact ih _ h1 | partOk h1 h2 => cases ih _ h1
  | partOk h h1 ih ih1 => intro r' h'; cases h' with | partNo h2 => cases ih _ h2 | partOk h2 h3 => cases ih _ h2; exact ih1 _ h3
  | partMore h h1 h2 ih ih1 => intro r' h'; cases h' with | partMore h3 h4 h5 => cases ih _ h4; exact ih1 _ h5 | partBad h3 h4 => cases ih _ h4 | partEnd h3 => exact absurd h h3
  | partBad h h1 ih => intro r' h'; cases h' with | partMore h3 h4 h5 => cases ih _ h4 | partBad h3 h4 => exact ih _ h4 | partEnd h3 => exact absurd h h3
  | partEnd h => intro r' h'; cases h' with | partMore h3 => exact absurd h3 h | partBad h3 => exact absurd h3 h | partEnd => rfl
  | patNo h ih => intro r' h'; cases h' with | patNo h1 => exact ih _ h1 | patOk h1 h2 => cases ih _ h1
  | patOk h h1 ih ih1 => intro r' h'; cases h' with | patNo h2 => cases ih _ h2 | patOk h2 h3 => cases ih _ h2; exact ih1 _ h3
  | patMore h h1 h2 ih ih1 => intro r' h'; cases h' with | patMore h3 h4 h5 => cases ih _ h4; exact ih1 _ h5 | patBad h3 h4 => cases ih _ h4 | patEnd h3 => exact absurd h h3
  | patBad h h1 ih => intro r' h'; cases h' with | patMore h3 h4 h5 => cases ih _ h4 | patBad h3 h4 => exact ih _ h4 | patEnd h3 => exact absurd h h3
  | patEnd h => intro r' h'; cases h' with | patMore h3 => exact absurd h3 h | patBad h3 => exact absurd h3 h | patEnd => rfl
mutual
/-- a pattern as a tree -/
def Pat.tree : Pat → Tree
  | .one f => .node 1 f 0 0 []
  | .cat l => catT (Pat.trees l)
  | .alt l => altT (Pat.trees l)
  | .rep mn mx p => repT (mn : Int) (mx : Int) (Pat.tree p)
def Pat.trees : List Pat → List Tree
  | [] => []
  | p :: l => Pat.tree p :: Pat.trees l
end
theorem Pat.trees_map (l : List Pat) : Pat.trees l = l.map Pat.tree := by
  induction l with
  | nil => rfl
  | cons p l ih => rw [Pat.trees, ih]; rfl
/-- a proof for all patterns -/
theorem Pat.ind {M : Pat → Prop} (h1 : ∀ f, M (.one f)) (h2 : ∀ l, (∀ p ∈ l, M p) → M (.cat l)) (h3 : ∀ l, (∀ p ∈ l, M p) → M (.alt l)) (h4 : ∀ mn mx p, M p → M (.rep mn mx p)) : ∀ p, M p
  | .one f => h1 f
  | .cat l => h2 l fun p hp => Pat.ind h1 h2 h3 h4 p
  | .alt l => h3 l fun p hp => Pat.ind h1 h2 h3 h4 p
  | .rep mn mx p => h4 mn mx p (Pat.ind h1 h2 h3 h4 p)
/-- a pattern that a text may be -/
inductive Wf : Pat → Prop where
  | one (f) : Wf (.one f)
  | cat (l) (h : ∀ p ∈ l, Wf p) (hl : 2 ≤ l.length) (hm : l.length ≤ 1000) : Wf (.cat l)
  | alt (l) (h : ∀ p ∈ l, Wf p) (hl : 2 ≤ l.length) (hm : l.length ≤ 1000) : Wf (.alt l)
  | rep (mn mx p) (h : Wf p) (h1 : mn ≤ mx) (h2 : 1 ≤ mx) (h3 : mx ≤ 32) : Wf (.rep mn mx p)
/-- a tree that a text may be -/
def Good (t : Tree) : Prop := ∃ p, Wf p ∧ t = p.tree
theorem good_one (f : Nat → Bool) : Good (one f) := ⟨.one f, .one f, rfl⟩
theorem good_rep {t : Tree} (h : Good t) {mn mx : Int} (h0 : 0 ≤ mn) (h1 : mn ≤ mx) (h2 : 1 ≤ mx) (h3 : mx ≤ 32) : Good (repT mn mx t) := by
  obtain ⟨p, hp, rfl⟩ := h
  exact ⟨.rep mn.toNat mx.toNat p, .rep _ _ _ hp (by omega) (by omega) (by omega), by rw [Pat.tree, Int.toNat_of_nonneg h0, Int.toNat_of_nonneg (by omega)]⟩
theorem goods {l : List Tree} (h : ∀ t ∈ l, Good t) : ∃ ps : List Pat, (∀ p ∈ ps, Wf p) ∧ l = Pat.trees ps := by
  induction l with
  | nil => exact ⟨[], by simp, rfl⟩
  | cons t l ih =>
    obtain ⟨p, hp, ht⟩ := h t (by simp)
    obtain ⟨ps, hps, hl⟩ := ih fun u hu => h u (by simp [hu])
    exact ⟨p :: ps, by intro q hq; rcases List.mem_cons.1 hq with rfl | hq; exact hp; exact hps q hq, by rw [Pat.trees, ht, hl]⟩
theorem trees_len (ps : List Pat) : (Pat.trees ps).length = ps.length := by rw [Pat.trees_map]; simp
theorem good_many {l : List Tree} (h : ∀ t ∈ l, Good t) (hn : l ≠ []) (hm : l.length ≤ 1000) : Good (many 2 l) ∧ Good (many 3 l) := by
  match l, hn with
  | [t], _ => exact ⟨h t (by simp), h t (by simp)⟩
  | a :: b :: r, _ =>
    obtain ⟨ps, hps, hl⟩ := goods h
    have hlen : 2 ≤ ps.length := by rw [← trees_len, ← hl]; simp
    have hlen2 : ps.length ≤ 1000 := by rw [← trees_len, ← hl]; exact hm
    exact ⟨⟨.cat ps, .cat ps hps hlen hlen2, by rw [Pat.tree, ← hl]; rfl⟩, ⟨.alt ps, .alt ps hps hlen hlen2, by rw [Pat.tree, ← hl]; rfl⟩⟩
/-- what has been gathered so far -/
def Q.good : Q → Nat → Prop
  | .pieceL t, _ => Good t
  | .partL l, p => (∀ t ∈ l, Good t) ∧ l ≠ [] ∧ l.length ≤ p
  | .patL l, p => (∀ t ∈ l, Good t) ∧ l ≠ [] ∧ l.length ≤ p
  | _, _ => True
theorem re_good {r : Re (Nat → Bool)} {t : Tree} {q : Nat} (h : r.map one = .ok t q) : Good t := by
  cases r with
  | ok f q' => injection h with h; subst h; exact good_one _
  | no c x => cases h
theorem atomF_good {s : ByteArray} {p : Nat} {t : Tree} {q : Nat} (h : atomF s p = .ok t q) : Good t := by
  unfold atomF at h
  split at h
  · cases h
  split at h
  · exact re_good h
  split at h
  · injection h with h; subst h; exact good_one _
  split at h
  · split at h
    · injection h with h; subst h; exact good_one _
    · cases he : escF s (p + 1) with
      | ok a b => rw [he] at h; injection h with h; subst h; exact good_one _
      | no c x => rw [he] at h; cases h
  split at h
  · cases h
  split at h
  · cases h
  · injection h with h; subst h; exact good_one _
theorem P.good {s : ByteArray} (hm : s.size ≤ 1000) {q : Q} {o p : Nat} {r : Re Tree} (h : P s q o p r) : p ≤ s.size → q.good p → ∀ t q', r = .ok t q' → Good t := by
  induction h with
  | plain h => intro _ _ t q' e; exact atomF_good e
  | deep => intro _ _ t q' e; cases e
  | @sub o p r h h1 h2 ih =>
    intro hp _ t q' e
    cases r with
    | no c x => cases e
    | ok t2 q2 =>
      have := ih (ch_ge (by omega)) trivial t2 q2 rfl
      rw [closeF] at e
      split at e
      · injection e with e; subst e; exact this
      · cases e
  | pieceNo h ih => intro _ _ t q' e; cases e
  | @pieceOk o p t q r h h1 ih ih1 => intro hp _ t' q' e; exact ih1 (P.in h hp).2 (ih hp trivial t q rfl) t' q' e
  | @opt o p t r h h1 ih => intro hp hg t' q' e; exact ih (ch_ge (by omega)) (good_rep hg (by omega) (by omega) (by omega) (by omega)) t' q' e
  | @times o p t m n q r h h1 h2 ih =>
    intro hp hg t' q' e
    obtain ⟨h3, h4⟩ := timesF_in s (p + 1) (ch_ge (by omega))
    obtain ⟨a1, a2, a3, a4⟩ := h4 m n q h1
    rw [h1] at h3
    exact ih h3.2 (good_rep hg a1 a4 a2 a3) t' q' e
  | timesNo => intro _ _ t q' e; cases e
  | pieceEnd => intro _ hg t q' e; injection e with e; subst e; exact hg
  | partNo => intro _ _ t q' e; cases e
  | @partOk o p t q r h h1 ih ih1 =>
    intro hp _ t' q' e
    have hin := P.in h hp
    have hin1 := hin.1
    simp [Q.far] at hin1
    exact ih1 hin.2 ⟨by intro u hu; rw [show u = t from by simpa using hu]; exact ih hp trivial t q rfl, by simp, by simp; omega⟩ t' q' e
  | @partMore o p l t q r h h1 h2 ih ih1 =>
    intro hp hg t' q' e
    have hin := P.in h1 hp
    have hin1 := hin.1
    simp [Q.far] at hin1
    refine ih1 hin.2 ⟨fun u hu => ?_, by simp, by have := hg.2.2; simp; omega⟩ t' q' e
    rcases List.mem_append.1 hu with hu | hu
    · exact hg.1 u hu
    · rw [show u = t from by simpa using hu]; exact ih hp trivial t q rfl
  | partBad => intro _ _ t q' e; cases e
  | partEnd => intro hp hg t q' e; injection e with e; subst e; exact (good_many hg.1 hg.2.1 (by have := hg.2.2; omega)).1
  | patNo => intro _ _ t q' e; cases e
  | @patOk o p t q r h h1 ih ih1 =>
    intro hp _ t' q' e
    have hin := P.in h hp
    have hin1 := hin.1
    simp [Q.far] at hin1
    exact ih1 hin.2 ⟨by intro u hu; rw [show u = t from by simpa using hu]; exact ih hp trivial t q rfl, by simp, by simp; omega⟩ t' q' e
  | @patMore o p l t q r h h1 h2 ih ih1 =>
    intro hp hg t' q' e
    have hin := P.in h1 (ch_ge (s := s) (p := p) (by omega))
    have hin1 := hin.1
    simp [Q.far] at hin1
    refine ih1 hin.2 ⟨fun u hu => ?_, by simp, by have := hg.2.2; simp; omega⟩ t' q' e
    rcases List.mem_append.1 hu with hu | hu
    · exact hg.1 u hu
    · rw [show u = t from by simpa using hu]; exact ih (ch_ge (s := s) (p := p) (by omega)) trivial t q rfl
  | patBad => intro _ _ t q' e; cases e
  | patEnd => intro hp hg t q' e; injection e with e; subst e; exact (good_many hg.1 hg.2.1 (by have := hg.2.2; omega)).2
end Go.Proofs.Ytofgkildlhcpdaa
/- The lengths of a pattern's words, in plain words. -/
set_option linter.unusedVariables false
namespace Go.Proofs.Ytofgkildlhcpdaa
theorem mt_alt_cons (b : Nat → Nat) (n : Nat) (p : Pat) (l : List Pat) (S : Nat → Prop) (i : Nat) : img (MtA b n (p :: l)) S i ↔ img (Mt b n p) S i ∨ img (MtA b n l) S i := by
  constructor
  · rintro ⟨j, h1, h2⟩
    rw [MtA] at h2
    exact h2.imp (fun h => ⟨j, h1, h⟩) (fun h => ⟨j, h1, h⟩)
  · rintro (⟨j, h1, h2⟩ | ⟨j, h1, h2⟩)
    · exact ⟨j, h1, by rw [MtA]; exact .inl h2⟩
    · exact ⟨j, h1, by rw [MtA]; exact .inr h2⟩
mutual
/-- how many bytes a word has at least, at most (up to 1000) -/
def leastP : Pat → Nat
  | .one _ => 1
  | .cat l => min (leastC l) 1000
  | .alt l => min (leastA l) 1000
  | .rep mn _ p => min (mn * leastP p) 1000
def leastC : List Pat → Nat
  | [] => 0
  | p :: l => leastP p + leastC l
def leastA : List Pat → Nat
  | [] => 1000
  | p :: l => min (leastP p) (leastA l)
end
mutual
def mostP : Pat → Nat
  | .one _ => 1
  | .cat l => min (mostC l) 1000
  | .alt l => min (mostA l) 1000
  | .rep _ mx p => min (mx * mostP p) 1000
def mostC : List Pat → Nat
  | [] => 0
  | p :: l => mostP p + mostC l
def mostA : List Pat → Nat
  | [] => 0
  | p :: l => max (mostP p) (mostA l)
end
mutual
/-- all bytes of all sets -/
def anyP : Pat → Nat → Bool
  | .one s => s
  | .cat l => anyL l
  | .alt l => anyL l
  | .rep _ _ p => anyP p
def anyL : List Pat → Nat → Bool
  | [] => fun _ => false
  | p :: l => fun c => anyP p c || anyL l c
end
theorem it_len {R : Nat → Nat → Prop} {lo hi : Nat} (h : ∀ j i, R j i → j ≤ i ∧ lo ≤ i - j ∧ min (i - j) 1000 ≤ hi) (t : Nat) : ∀ j i, It R t j i → j ≤ i ∧ t * lo ≤ i - j ∧ min (i - j) 1000 ≤ t * hi := by
  induction t with
  | zero => intro j i e; cases e; simp
  | succ t ih =>
    rintro j i ⟨k, h1, h2⟩
    have a := ih j k h1
    have c := h k i h2
    rw [Nat.succ_mul, Nat.succ_mul]
    omega
theorem mt_len (b : Nat → Nat) (n : Nat) (p : Pat) : ∀ j i, Mt b n p j i → j ≤ i ∧ leastP p ≤ i - j ∧ min (i - j) 1000 ≤ mostP p := by
  refine Pat.rec (motive_1 := fun p => ∀ j i, Mt b n p j i → j ≤ i ∧ leastP p ≤ i - j ∧ min (i - j) 1000 ≤ mostP p)
    (motive_2 := fun l => (∀ j i, MtC b n l j i → j ≤ i ∧ leastC l ≤ i - j ∧ min (i - j) 1000 ≤ mostC l) ∧ (∀ j i, MtA b n l j i → j ≤ i ∧ leastA l ≤ i - j ∧ min (i - j) 1000 ≤ mostA l)) ?_ ?_ ?_ ?_ ?_ ?_ p
  · intro s j i h
    rw [Mt] at h
    obtain ⟨rfl, _, _⟩ := h
    rw [leastP, mostP]; omega
  · intro l ih j i h
    rw [Mt] at h
    have := ih.1 j i h
    rw [leastP, mostP]; omega
  · intro l ih j i h
    rw [Mt] at h
    have := ih.2 j i h
    rw [leastP, mostP]; omega
  · intro mn mx p ih j i h
    rw [Mt] at h
    obtain ⟨t, h1, h2, h3⟩ := h
    have h4 := it_len ih t j i h3
    rw [leastP, mostP]
    have h5 := Nat.mul_le_mul_right (leastP p) h1
    have h6 := Nat.mul_le_mul_right (mostP p) h2
    omega
  · refine ⟨fun j i h => ?_, fun j i h => ?_⟩
    · rw [MtC] at h; subst h; rw [leastC, mostC]; omega
    · rw [MtA] at h; exact h.elim
  · intro p l ih ih2
    refine ⟨fun j i h => ?_, fun j i h => ?_⟩
    · rw [MtC] at h
      obtain ⟨k, h1, h2⟩ := h
      have a := ih j k h1
      have c := ih2.1 k i h2
      rw [leastC, mostC]; omega
    · rw [MtA] at h
      rw [leastA, mostA]
      rcases h with h | h
      · have := ih j i h; omega
      · have := ih2.2 j i h; omega
theorem it_any {R : Nat → Nat → Prop} {P : Nat → Prop} (hR : ∀ j i, R j i → j ≤ i) (h : ∀ j i, R j i → ∀ c, j ≤ c → c < i → P c) (t : Nat) : ∀ j i, It R t j i → j ≤ i ∧ ∀ c, j ≤ c → c < i → P c := by
  induction t with
  | zero => intro j i e; cases e; exact ⟨Nat.le_refl _, fun c h1 h2 => by omega⟩
  | succ t ih =>
    rintro j i ⟨k, h1, h2⟩
    have a := ih j k h1
    have d := hR k i h2
    refine ⟨by omega, fun c h3 h4 => ?_⟩
    by_cases hc : c < k
    · exact a.2 c h3 hc
    · exact h k i h2 c (by omega) h4
/-- all bytes of a word are of its sets -/
theorem mt_any (b : Nat → Nat) (n : Nat) (p : Pat) : ∀ j i, Mt b n p j i → ∀ c, j ≤ c → c < i → anyP p (b c) = true := by
  refine Pat.rec (motive_1 := fun p => ∀ j i, Mt b n p j i → ∀ c, j ≤ c → c < i → anyP p (b c) = true)
    (motive_2 := fun l => (∀ j i, MtC b n l j i → ∀ c, j ≤ c → c < i → anyL l (b c) = true) ∧ (∀ j i, MtA b n l j i → ∀ c, j ≤ c → c < i → anyL l (b c) = true)) ?_ ?_ ?_ ?_ ?_ ?_ p
  · intro s j i h c h1 h2
    rw [Mt] at h
    obtain ⟨rfl, _, h3⟩ := h
    obtain rfl : c = j := by omega
    rw [anyP]; exact h3
  · intro l ih j i h c h1 h2
    rw [Mt] at h
    rw [anyP]; exact ih.1 j i h c h1 h2
  · intro l ih j i h c h1 h2
    rw [Mt] at h
    rw [anyP]; exact ih.2 j i h c h1 h2
  · intro mn mx p ih j i h c h1 h2
    rw [Mt] at h
    obtain ⟨t, _, _, h3⟩ := h
    rw [anyP]
    exact (it_any (fun j i h => (mt_len b n p j i h).1) ih t j i h3).2 c h1 h2
  · refine ⟨fun j i h c h1 h2 => ?_, fun j i h => ?_⟩
    · rw [MtC] at h; omega
    · rw [MtA] at h; exact h.elim
  · intro p l ih ih2
    refine ⟨fun j i h c h1 h2 => ?_, fun j i h c h1 h2 => ?_⟩
    · rw [MtC] at h
      obtain ⟨k, h3, h4⟩ := h
      rw [anyL]; dsimp only
      by_cases hc : c < k
      · rw [ih j k h3 c h1 hc]; rfl
      · rw [ih2.1 k i h4 c (by omega) h2]; simp
    · rw [MtA] at h
      rw [anyL]; dsimp only
      rcases h with h | h
      · rw [ih j i h c h1 h2]; rfl
      · rw [ih2.2 j i h c h1 h2]; simp
end Go.Proofs.Ytofgkildlhcpdaa
/- Trees in memory: a node's kids one by one. -/
set_option linter.unusedVariables false
set_option linter.unusedSimpArgs false
namespace Go.Proofs.Ytofgkildlhcpdaa
open Go.RowKit Bt
/-- a tree's kids, wherever they stand -/
def NAt (w : World) (t : Tree) (kv : Value) : Prop := KAt (fun _ => True) w t kv
mutual
theorem KAt.lt {D : Nat → Prop} {w : World} : ∀ (t : Tree) (kv : Value), KAt D w t kv → KAt (fun b => D b ∧ b < w.heap.size) w t kv
  | .node op f mn mx kids, kv, h => by
    rw [KAt] at h ⊢
    rcases h with h | ⟨h1, hl, b, off, cap, h2, h3, h4, h5⟩
    · exact .inl h
    · have hb : b < w.heap.size := by
        match kids, h1 with
        | t :: l, _ =>
          rw [KRow] at h5
          obtain ⟨⟨kv', h6, _⟩, _⟩ := h5
          have h7 := h6 0 (by omega)
          rw [List.getElem?_eq_getElem (by rw [nodeL_len]; omega)] at h7
          exact World.block_lt_of_cell? w _ h7
      exact .inr ⟨h1, hl, b, off, cap, h2, h3, ⟨h4, hb⟩, KRow.lt kids b off h5⟩
theorem KRow.lt {D : Nat → Prop} {w : World} : ∀ (l : List Tree) (b off : Nat), KRow D w l b off → KRow (fun b => D b ∧ b < w.heap.size) w l b off
  | [], b, off, h => by rw [KRow]; trivial
  | t :: l, b, off, h => by
    rw [KRow] at h ⊢
    obtain ⟨⟨kv, h1, h2⟩, h3⟩ := h
    exact ⟨⟨kv, h1, KAt.lt t kv h2⟩, KRow.lt l b (off + 8) h3⟩
end
theorem NAt.below {w w' : World} {t : Tree} {kv : Value} (h : NAt w t kv) (hb : Below w.heap.size w w') : NAt w' t kv :=
  KAt.keep (fun b hb' => hb.block b hb'.2) (fun _ _ => trivial) t kv (KAt.lt t kv h)
theorem NAt.of {D : Nat → Prop} {w : World} {t : Tree} {kv : Value} (h : KAt D w t kv) : NAt w t kv := KAt.mono h fun _ _ => trivial
theorem NAt.alloc {w : World} {t : Tree} {kv : Value} (h : NAt w t kv) (o : Obj) : NAt (w.alloc o) t kv := h.below ((Below.refl _ _).alloc (Nat.le_refl _) o)
/-- one node's eight cells, from an address on -/
structure Cell8 (w : World) (b o : Nat) (op : Int) (f : Nat → Bool) (mn mx : Int) (kv : Value) : Prop where
  c0 : w.cell? ⟨b, o, none⟩ = some (.int .i64 op)
  c1 : w.cell? ⟨b, o + 1, none⟩ = some (.int .u64 ((wd f 0 : Nat) : Int))
  c2 : w.cell? ⟨b, o + 2, none⟩ = some (.int .u64 ((wd f 1 : Nat) : Int))
  c3 : w.cell? ⟨b, o + 3, none⟩ = some (.int .u64 ((wd f 2 : Nat) : Int))
  c4 : w.cell? ⟨b, o + 4, none⟩ = some (.int .u64 ((wd f 3 : Nat) : Int))
  c5 : w.cell? ⟨b, o + 5, none⟩ = some (.int .i64 mn)
  c6 : w.cell? ⟨b, o + 6, none⟩ = some (.int .i64 mx)
  c7 : w.cell? ⟨b, o + 7, none⟩ = some kv
/-- the kid at place j -/
theorem kid_at {w : World} {op : Int} {f : Nat → Bool} {mn mx : Int} {kids : List Tree} {kv : Value} (h : NAt w (.node op f mn mx kids) kv) {j : Nat} {t : Tree} (hj : kids[j]? = some t) :
    ∃ b off cap, kv = .slice (some ⟨b, off, none⟩) kids.length cap ∧ kids.length ≤ cap ∧ ∃ op' f' mn' mx' kids' ka kc, t = .node op' f' mn' mx' kids' ∧ Cell8 w b (off + j * 8) op' f' mn' mx' (.slice ka kids'.length kc) ∧ NAt w t (.slice ka kids'.length kc) := by
  unfold NAt at h
  rw [KAt] at h
  rcases h with ⟨h, _⟩ | ⟨h1, hl, b, off, cap, h2, h3, h4, h5⟩
  · rw [h] at hj; simp at hj
  obtain ⟨kv', h6, h7⟩ := KRow.get _ _ _ _ _ h5 hj
  obtain ⟨op', f', mn', mx', kids'⟩ := t
  obtain ⟨ka, kc, rfl⟩ := KAt.slice h7
  refine ⟨b, off, cap, h2, h3, op', f', mn', mx', kids', ka, kc, rfl, ?_, h7⟩
  have hm : 8 * j = j * 8 := Nat.mul_comm _ _
  rw [hm] at h6
  exact ⟨h6 0 (by omega), h6 1 (by omega), h6 2 (by omega), h6 3 (by omega), h6 4 (by omega), h6 5 (by omega), h6 6 (by omega), h6 7 (by omega)⟩
theorem trees_get {l : List Pat} {k : Nat} (h : k < l.length) : (Pat.trees l)[k]? = some (l[k].tree) := by rw [Pat.trees_map, List.getElem?_map, List.getElem?_eq_getElem h]; rfl
theorem leastC_snoc (l : List Pat) (k : Nat) (h : k < l.length) : leastC (l.take (k + 1)) = leastC (l.take k) + leastP l[k] := by
  have key : ∀ (a b : List Pat), leastC (a ++ b) = leastC a + leastC b := fun a b => by
    induction a with
    | nil => simp [leastC]
    | cons p a ih => rw [List.cons_append, leastC, leastC, ih]; omega
  rw [List.take_succ_eq_append_getElem h, key, leastC, leastC]; omega
theorem mostC_snoc (l : List Pat) (k : Nat) (h : k < l.length) : mostC (l.take (k + 1)) = mostC (l.take k) + mostP l[k] := by
  have key : ∀ (a b : List Pat), mostC (a ++ b) = mostC a + mostC b := fun a b => by
    induction a with
    | nil => simp [mostC]
    | cons p a ih => rw [List.cons_append, mostC, mostC, ih]; omega
  rw [List.take_succ_eq_append_getElem h, key, mostC, mostC]; omega
theorem leastP_le (p : Pat) : leastP p ≤ 1000 := by cases p <;> rw [leastP] <;> omega
theorem mostP_le (p : Pat) : mostP p ≤ 1000 := by cases p <;> rw [mostP] <;> omega
theorem leastC_le (l : List Pat) : leastC l ≤ l.length * 1000 := by
  induction l with
  | nil => simp [leastC]
  | cons p l ih => rw [leastC, List.length_cons]; have := leastP_le p; omega
theorem mostC_le (l : List Pat) : mostC l ≤ l.length * 1000 := by
  induction l with
  | nil => simp [mostC]
  | cons p l ih => rw [mostC, List.length_cons]; have := mostP_le p; omega
theorem leastA_le (l : List Pat) : leastA l ≤ 1000 := by
  induction l with
  | nil => simp [leastA]
  | cons p l ih => rw [leastA]; omega
theorem mostA_le (l : List Pat) : mostA l ≤ 1000 := by
  induction l with
  | nil => simp [mostA]
  | cons p l ih => rw [mostA]; have := mostP_le p; omega
theorem leastA_snoc (l : List Pat) (k : Nat) (h : k < l.length) : leastA (l.take (k + 1)) = min (leastA (l.take k)) (leastP l[k]) := by
  have key : ∀ (a b : List Pat), leastA (a ++ b) = min (leastA a) (leastA b) := fun a b => by
    induction a with
    | nil => have := leastA_le b; simp [leastA]; omega
    | cons p a ih => rw [List.cons_append, leastA, leastA, ih]; omega
  rw [List.take_succ_eq_append_getElem h, key, leastA, leastA]; have := leastP_le l[k]; omega
theorem mostA_snoc (l : List Pat) (k : Nat) (h : k < l.length) : mostA (l.take (k + 1)) = max (mostA (l.take k)) (mostP l[k]) := by
  have key : ∀ (a b : List Pat), mostA (a ++ b) = max (mostA a) (mostA b) := fun a b => by
    induction a with
    | nil => simp [mostA]
    | cons p a ih => rw [List.cons_append, mostA, mostA, ih]; omega
  rw [List.take_succ_eq_append_getElem h, key, mostA, mostA]; omega
end Go.Proofs.Ytofgkildlhcpdaa
/- The walks of Any, the program's and the document's. -/
set_option linter.unusedVariables false
set_option linter.unusedSimpArgs false
namespace Go.Proofs.Ytofgkildlhcpdaa
open Go.RowKit Bt
theorem Cell8.below {w w' : World} {b o : Nat} {op : Int} {f : Nat → Bool} {mn mx : Int} {kv : Value} (h : Cell8 w b o op f mn mx kv) (hb : Below w.heap.size w w') : Cell8 w' b o op f mn mx kv := by
  have hl : b < w.heap.size := World.block_lt_of_cell? w _ h.c0
  have e : ∀ i, w'.cell? ⟨b, i, none⟩ = w.cell? ⟨b, i, none⟩ := fun i => hb.cell (p := ⟨b, i, none⟩) hl
  exact ⟨(e _).trans h.c0, (e _).trans h.c1, (e _).trans h.c2, (e _).trans h.c3, (e _).trans h.c4, (e _).trans h.c5, (e _).trans h.c6, (e _).trans h.c7⟩
theorem anyL_snoc (l : List Pat) (k : Nat) (h : k < l.length) (x : Nat) : anyL (l.take (k + 1)) x = (anyL (l.take k) x || anyP l[k] x) := by
  have key : ∀ (a b : List Pat), anyL (a ++ b) x = (anyL a x || anyL b x) := fun a b => by
    induction a with
    | nil => simp [anyL]
    | cons p a ih => rw [List.cons_append, anyL, anyL]; show (anyP p x || anyL (a ++ b) x) = ((anyP p x || anyL a x) || anyL b x); rw [ih, Bool.or_assoc]
  rw [List.take_succ_eq_append_getElem h, key]; simp [anyL]
/-- what lang.Any does with a pattern -/
def pAnyC (p : Pat) : Prop := ∀ (w : World) (a : Option Addr) (n c : Nat), NAt w p.tree (.slice a n c) → Calls Try.prog 16 #[nodeV p.tree (.slice a n c)] w fun e w' => e = .returned (setOf (anyP p)) ∧ Below w.heap.size w w'
set_option maxRecDepth 100000 in
set_option maxHeartbeats 1600000 in
theorem pAny_node (op : Int) (f : Nat → Bool) (mn mx : Int) (ps : List Pat) (hl : ps.length ≤ 1000) (ih : ∀ p ∈ ps, pAnyC p) (w : World) (a : Option Addr) (c : Nat) (h : NAt w (.node op f mn mx (Pat.trees ps)) (.slice a ps.length c)) :
    Calls Try.prog 16 #[.agg #[.int .i64 op, .int .u64 ((wd f 0 : Nat) : Int), .int .u64 ((wd f 1 : Nat) : Int), .int .u64 ((wd f 2 : Nat) : Int), .int .u64 ((wd f 3 : Nat) : Int), .int .i64 mn, .int .i64 mx, .slice a ps.length c]] w fun e w' => e = .returned (setOf fun x => f x || anyL ps x) ∧ Below w.heap.size w w' := by
  obtain ⟨w0, hw0⟩ : ∃ w0 : World, w0 = ((w.alloc (.cells (nodeC op f mn mx (.slice a ps.length c)) 29)).alloc (.cells (setC 0 0 0 0) 26)).alloc (.cells (cellsOf f) 26) := ⟨_, rfl⟩
  have H := Lib.hid h
  have HA : Hid (AtG w0 w.heap.size 29 (nodeC op f mn mx (.slice a ps.length c))) := Lib.hid (by rw [hw0]; exact ((AtG.new _ _ _).alloc _).alloc _)
  have HR : Hid (AtG w0 (w.heap.size + 1) 26 (setC 0 0 0 0)) := Lib.hid (by
    rw [hw0]
    have := (AtG.new (w.alloc (.cells (nodeC op f mn mx (.slice a ps.length c)) 29)) 26 (setC 0 0 0 0)).alloc (.cells (cellsOf f) 26)
    simpa using this)
  have HS : Hid (AtG w0 (w.heap.size + 1 + 1) 26 (cellsOf fun x => f x || anyL (ps.take 0) x)) := Lib.hid (by
    rw [hw0, show (cellsOf fun x => f x || anyL (ps.take 0) x) = cellsOf f from cellsOf_ext fun x _ => by simp [anyL]]
    have := AtG.new ((w.alloc (.cells (nodeC op f mn mx (.slice a ps.length c)) 29)).alloc (.cells (setC 0 0 0 0) 26)) 26 (cellsOf f)
    simpa using this)
  have HB0 : Hid (Below w.heap.size w w0) := Lib.hid (by rw [hw0]; go_grown)
  have hlI : (ps.length : Int) ≤ 1000 := by omega
  have hw0' : ((w.alloc (.cells #[.int .i64 op, .int .u64 ((wd f 0 : Nat) : Int), .int .u64 ((wd f 1 : Nat) : Int), .int .u64 ((wd f 2 : Nat) : Int), .int .u64 ((wd f 3 : Nat) : Int), .int .i64 mn, .int .i64 mx, .slice a ps.length c] 29)).alloc (.cells (setC 0 0 0 0) 26)).alloc (.cells #[.int .u64 ((wd f 0 : Nat) : Int), .int .u64 ((wd f 1 : Nat) : Int), .int .u64 ((wd f 2 : Nat) : Int), .int .u64 ((wd f 3 : Nat) : Int)] 26) = w0 := hw0.symm
  have m0 : w0.cell? ⟨w.heap.size, 0, none⟩ = some (.int .i64 op) := HA.out.cell 0 _ rfl
  have m1 : w0.cell? ⟨w.heap.size, 1, none⟩ = some (.int .u64 ((wd f 0 : Nat) : Int)) := HA.out.cell 1 _ rfl
  have m2 : w0.cell? ⟨w.heap.size, 2, none⟩ = some (.int .u64 ((wd f 1 : Nat) : Int)) := HA.out.cell 2 _ rfl
  have m3 : w0.cell? ⟨w.heap.size, 3, none⟩ = some (.int .u64 ((wd f 2 : Nat) : Int)) := HA.out.cell 3 _ rfl
  have m4 : w0.cell? ⟨w.heap.size, 4, none⟩ = some (.int .u64 ((wd f 3 : Nat) : Int)) := HA.out.cell 4 _ rfl
  have m5 : w0.cell? ⟨w.heap.size, 5, none⟩ = some (.int .i64 mn) := HA.out.cell 5 _ rfl
  have m6 : w0.cell? ⟨w.heap.size, 6, none⟩ = some (.int .i64 mx) := HA.out.cell 6 _ rfl
  have m7 : w0.cell? ⟨w.heap.size, 7, none⟩ = some (.slice a ps.length c) := HA.out.cell 7 _ rfl
  clear h hw0
  unfold setOf
  go_enter Try.func16, Try.ntmps16
  go_wp2_with fail
  clear hw0' m0 m1 m2 m3 m4 m5 m6 m7
  go_loopw [11] (fun i wr => ∃ k : Nat, k ≤ ps.length ∧ i = .int .i64 k ∧ AtG wr w.heap.size 29 (nodeC op f mn mx (.slice a ps.length c)) ∧ AtG wr (w.heap.size + 1) 26 (setC 0 0 0 0) ∧ AtG wr (w.heap.size + 1 + 1) 26 (cellsOf fun x => f x || anyL (ps.take k) x) ∧ Below w.heap.size w wr) (fun i _ => ps.length - (intOf i).toNat)
  case atStart => exact ⟨0, Nat.zero_le _, rfl, HA.out, HR.out, HS.out, HB0.out⟩
  case round =>
    clear HA HR HS HB0
    obtain ⟨k, hk, rfl, hat, hrs, hst, hb⟩ := hrel
    have HAT := Lib.hid hat; have HB := Lib.hid hb; have HRS := Lib.hid hrs; have HST := Lib.hid hst
    have m7 : wr.cell? ⟨w.heap.size, 7, none⟩ = some (.slice a ps.length c) := hat.cell 7 _ rfl
    clear hat hb hrs hst
    by_cases hlt : k < ps.length
    · obtain ⟨b, off, cap, heq, hcap, op', f', mn', mx', kids', ka, kc, ht, hc8, hkn⟩ := kid_at H.out (trees_get hlt)
      injection heq with e1 e2 e3
      subst e1; subst e3
      clear e2
      rw [trees_len] at hcap
      have hI := ih ps[k] (List.getElem_mem hlt)
      unfold pAnyC at hI
      rw [ht] at hI hkn
      have hI2 := fun w h => hI w ka kids'.length kc h
      unfold nodeV at hI2
      have HE : Hid ((fun x => (f x || anyL (ps.take k) x) || anyP ps[k] x) = fun x => f x || anyL (ps.take (k + 1)) x) := Lib.hid (by
        funext x; rw [anyL_snoc ps k hlt, Bool.or_assoc])
      generalize anyP ps[k] = G at *
      obtain ⟨F, hF⟩ : ∃ F : Nat → Bool, F = fun x => f x || anyL (ps.take k) x := ⟨_, rfl⟩
      have HE2 : Hid ((fun x => F x || G x) = fun x => f x || anyL (ps.take (k + 1)) x) := Lib.hid (by rw [← HE.out, hF])
      rw [← hF] at HST
      have HI := Lib.hid hI2; have HKN := Lib.hid hkn
      obtain ⟨kn, hkl⟩ : ∃ kn, kn = kids'.length := ⟨_, rfl⟩
      rw [← hkl] at HKN HI hc8
      have HC8 := Lib.hid hc8
      have hlb : b < w.heap.size := World.block_lt_of_cell? w _ hc8.c0
      have HWS := Lib.hid HB.out.size
      clear hkn hI hI2 hkl ht hF HE hc8
      obtain ⟨c0, c1, c2, c3, c4, c5, c6, c7⟩ := Cell8.below HC8.out HB.out
      go_upto_region 5 with (fail)
      have HAT1 := Lib.hid (HAT.out.alloc (.cells (nodeC op' f' mn' mx' (.slice ka kn kc)) 29)); have HRS1 := Lib.hid (HRS.out.alloc (.cells (nodeC op' f' mn' mx' (.slice ka kn kc)) 29)); have HST1 := Lib.hid (HST.out.alloc (.cells (nodeC op' f' mn' mx' (.slice ka kn kc)) 29)); have HB1 := Lib.hid (HB.out.alloc HB.out.size (.cells (nodeC op' f' mn' mx' (.slice ka kn kc)) 29)); have HC1 := Lib.hid (AtG.new wr 29 (nodeC op' f' mn' mx' (.slice ka kn kc)))
      have HNE : Hid (wr.heap.size ≠ w.heap.size + 1 + 1) := Lib.hid (by have := HST.out.lt; omega)
      clear c0 c1 c2 c3 c4 c5 c6 c7
      refine RgX.start (by kernel_rfl) [(4, fun w5 w6 => ∃ g, w6 = putS w5 (w.heap.size + 1 + 1) g)] [⟨fun w5 => AtG w5 w.heap.size 29 (nodeC op f mn mx (.slice (some ⟨b, off, none⟩) ps.length c)) ∧ AtG w5 (w.heap.size + 1) 26 (setC 0 0 0 0) ∧ Below w.heap.size w w5 ∧ AtG w5 wr.heap.size 29 (nodeC op' f' mn' mx' (.slice ka kn kc)), none⟩, ⟨fun w5 => AtG w5 (w.heap.size + 1 + 1) 26 (cellsOf F), some 4⟩] ⟨⟨fun _ _ h hb => ⟨h.1.below hb, h.2.1.below hb, h.2.2.1.trans (hb.mono h.2.2.1.size), h.2.2.2.below hb⟩, ⟨fun _ _ _ _ => (fun w5 w6 h he => by obtain ⟨g, rfl⟩ := he; exact ⟨putS_far h.1 (by omega) _, putS_far h.2.1 (by omega) _, putS_below h.2.2.1 (by omega) _, putS_far h.2.2.2 HNE.out _⟩), trivial⟩⟩, ⟨fun _ _ h hb => h.below hb, ⟨fun _ h _ _ => absurd rfl h, trivial⟩⟩, trivial⟩ (by kernel_rfl) (by kernel_rfl) ⟨⟨HAT1.out.drew, HRS1.out.drew, HB1.out.drew, HC1.out.drew⟩, HST1.out.drew, trivial⟩ ?_
      show RgX.Build _ _ _ _ _ _ 0 [_, _, _, _, _] []
      refine RgX.build_cons (m := 1) (r := RgX.eq _) (RgX.one_plain (by rfl) (by (intro ax wx hk Kx hK; have k3 := hk.base 3 _ rfl rfl; have hL := hk.fact 0 0 _ rfl rfl; (try dsimp only at hL); have hs := hk.fact 1 1 _ rfl rfl; (try dsimp only at hs); clear hk; have z0 : wx.cell? ⟨w.heap.size + 1 + 1, 0, none⟩ = some (.int .u64 ((wd (F) 0 : Nat) : Int)) := hs.cell 0 _ rfl; have z1 : wx.cell? ⟨w.heap.size + 1 + 1, 1, none⟩ = some (.int .u64 ((wd (F) 1 : Nat) : Int)) := hs.cell 1 _ rfl; have z2 : wx.cell? ⟨w.heap.size + 1 + 1, 2, none⟩ = some (.int .u64 ((wd (F) 2 : Nat) : Int)) := hs.cell 2 _ rfl; have z3 : wx.cell? ⟨w.heap.size + 1 + 1, 3, none⟩ = some (.int .u64 ((wd (F) 3 : Nat) : Int)) := hs.cell 3 _ rfl; go_simp; refine hK _ _ (fun h => by cases h) (fun _ _ => ?_) (Below.refl _ _); apply RgX.mk))) ?_ rfl RgX.keep_eq (fun _ h => by cases h)
      refine RgX.build_cons (m := 2) (r := RgX.eq _) (RgX.one_plain (by rfl) (by (intro ax wx hk Kx hK; have k5 := hk.base 5 _ rfl rfl; have hL := hk.fact 0 0 _ rfl rfl; (try dsimp only at hL); have hs := hk.fact 1 1 _ rfl rfl; (try dsimp only at hs); clear hk; have q0 : wx.cell? ⟨wr.heap.size, 0, none⟩ = some (.int .i64 op') := hL.2.2.2.cell 0 _ rfl; have q1 : wx.cell? ⟨wr.heap.size, 1, none⟩ = some (.int .u64 ((wd f' 0 : Nat) : Int)) := hL.2.2.2.cell 1 _ rfl; have q2 : wx.cell? ⟨wr.heap.size, 2, none⟩ = some (.int .u64 ((wd f' 1 : Nat) : Int)) := hL.2.2.2.cell 2 _ rfl; have q3 : wx.cell? ⟨wr.heap.size, 3, none⟩ = some (.int .u64 ((wd f' 2 : Nat) : Int)) := hL.2.2.2.cell 3 _ rfl; have q4 : wx.cell? ⟨wr.heap.size, 4, none⟩ = some (.int .u64 ((wd f' 3 : Nat) : Int)) := hL.2.2.2.cell 4 _ rfl; have q5 : wx.cell? ⟨wr.heap.size, 5, none⟩ = some (.int .i64 mn') := hL.2.2.2.cell 5 _ rfl; have q6 : wx.cell? ⟨wr.heap.size, 6, none⟩ = some (.int .i64 mx') := hL.2.2.2.cell 6 _ rfl; have q7 : wx.cell? ⟨wr.heap.size, 7, none⟩ = some (.slice ka kn kc) := hL.2.2.2.cell 7 _ rfl; go_simp; refine hK _ _ (fun h => by cases h) (fun _ _ => ?_) (Below.refl _ _); apply RgX.mk))) ?_ rfl RgX.keep_eq (fun _ h => by cases h)
      refine RgX.build_cons (m := 3) (r := RgX.eq _) (RgX.one_plain (by rfl) (by (intro ax wx hk Kx hK; obtain ⟨v16, k16, h16⟩ := hk.dep 0 1 16 _ rfl rfl rfl; (first | (replace h16 := h16 9 undef rfl rfl; first | (cases (h16 : v16 = _)) | (obtain ⟨rfl, h16⟩ := h16) | skip) | skip); have hL := hk.fact 0 0 _ rfl rfl; (try dsimp only at hL); have hs := hk.fact 1 1 _ rfl rfl; (try dsimp only at hs); clear hk; go_simp; refine (HI.out _ (NAt.below HKN.out hL.2.2.1)).mono ?_; rintro e w' ⟨rfl, hb⟩; refine hK _ _ (fun h => by cases h) (fun _ _ => ?_) hb; apply RgX.mk))) ?_ rfl RgX.keep_eq (fun _ h => by cases h)
      refine RgX.build_cons (m := 4) (r := RgX.eq _) (RgX.one_plain (by rfl) (by (intro ax wx hk Kx hK; obtain ⟨v15, k15, h15⟩ := hk.dep 0 0 15 _ rfl rfl rfl; (first | (replace h15 := h15 9 undef rfl rfl; first | (cases (h15 : v15 = _)) | (obtain ⟨rfl, h15⟩ := h15) | skip) | skip); obtain ⟨v17, k17, h17⟩ := hk.dep 0 2 17 _ rfl rfl rfl; (first | (replace h17 := h17 9 undef rfl rfl; first | (cases (h17 : v17 = _)) | (obtain ⟨rfl, h17⟩ := h17) | skip) | skip); have hL := hk.fact 0 0 _ rfl rfl; (try dsimp only at hL); have hs := hk.fact 1 1 _ rfl rfl; (try dsimp only at hs); clear hk; go_simp; refine (or_any F G _).mono ?_; rintro e w' ⟨rfl, hb⟩; refine hK _ _ (fun h => by cases h) (fun _ _ => ?_) hb; apply RgX.mk))) ?_ rfl RgX.keep_eq (fun _ h => by cases h)
      refine RgX.build_cons (m := 5) (r := (⟨fun _ _ w5 => AtG w5 (w.heap.size + 1 + 1) 26 (cellsOf fun x => F x || G x), none, none⟩ : RgX.Rl)) (RgX.one_plain (by rfl) (by (intro ax wx hk Kx hK; have k3 := hk.base 3 _ rfl rfl; obtain ⟨v18, k18, h18⟩ := hk.dep 0 3 18 _ rfl rfl rfl; (first | (replace h18 := h18 9 undef rfl rfl; first | (cases (h18 : v18 = _)) | (obtain ⟨rfl, h18⟩ := h18) | skip) | skip); have hL := hk.fact 0 0 _ rfl rfl; (try dsimp only at hL); have hs := hk.fact 1 0 _ rfl rfl; (try dsimp only at hs); clear hk; (have d0 : wx.cell? ⟨w.heap.size + 1 + 1, 0, none⟩ = some (.int .u64 ((wd (F) 0 : Nat) : Int)) := hs.cell 0 _ rfl; have d1 : wx.cell? ⟨w.heap.size + 1 + 1, 1, none⟩ = some (.int .u64 ((wd (F) 1 : Nat) : Int)) := hs.cell 1 _ rfl; have d2 : wx.cell? ⟨w.heap.size + 1 + 1, 2, none⟩ = some (.int .u64 ((wd (F) 2 : Nat) : Int)) := hs.cell 2 _ rfl; have d3 : wx.cell? ⟨w.heap.size + 1 + 1, 3, none⟩ = some (.int .u64 ((wd (F) 3 : Nat) : Int)) := hs.cell 3 _ rfl; have f0 := hs.frozen 0; have f1 := hs.frozen 1; have f2 := hs.frozen 2; have f3 := hs.frozen 3; unfold setOf at k18; go_simp; exact hK undef _ (fun _ => rfl) (fun u hu => putS_at hs _) ⟨_, rfl⟩)))) ?_ rfl (RgX.keep_r (fun _ _ _ _ h hb => h.below hb) (fun _ _ => ⟨fun h _ _ _ => absurd rfl h, trivial⟩)) (fun _ h => by cases h)
      refine RgX.build_end fun wx hj => ?_
      have hL := hj 0 _ rfl rfl
      clear hj
      refine RgX.fin_eq rfl ?_
      refine RgX.fin_eq rfl ?_
      refine RgX.fin_eq rfl ?_
      refine RgX.fin_eq rfl ?_
      refine RgX.fin_none rfl fun s4 => ?_
      refine RgX.fin_nil ?_
      simp only [List.set_cons_zero, List.set_cons_succ]
      have hs5 := s4 rfl undef rfl
      rw [HE2.out] at hs5
      have HL := Lib.hid hL; have HS5 := Lib.hid hs5
      clear s4 hL hs5
      go_wp2_with fail
      exact ⟨⟨k + 1, by omega, by go_num, HL.out.1, HL.out.2.1, HS5.out, HL.out.2.2.1⟩, by simp [intOf]; omega⟩
    · obtain rfl : k = ps.length := by omega
      rw [List.take_length] at HST
      obtain ⟨F, hF⟩ : ∃ F : Nat → Bool, F = fun x => f x || anyL ps x := ⟨_, rfl⟩
      rw [← hF] at HST
      have HF := Lib.hid hF
      clear hF
      have z0 : wr.cell? ⟨w.heap.size + 1 + 1, 0, none⟩ = some (.int .u64 ((wd (F) 0 : Nat) : Int)) := HST.out.cell 0 _ rfl
      have z1 : wr.cell? ⟨w.heap.size + 1 + 1, 1, none⟩ = some (.int .u64 ((wd (F) 1 : Nat) : Int)) := HST.out.cell 1 _ rfl
      have z2 : wr.cell? ⟨w.heap.size + 1 + 1, 2, none⟩ = some (.int .u64 ((wd (F) 2 : Nat) : Int)) := HST.out.cell 2 _ rfl
      have z3 : wr.cell? ⟨w.heap.size + 1 + 1, 3, none⟩ = some (.int .u64 ((wd (F) 3 : Nat) : Int)) := HST.out.cell 3 _ rfl
      have d0 := (HRS.out).cell 0 _ rfl; have d1 := (HRS.out).cell 1 _ rfl; have d2 := (HRS.out).cell 2 _ rfl; have d3 := (HRS.out).cell 3 _ rfl
      have f0 := (HRS.out).frozen 0; have f1 := (HRS.out).frozen 1; have f2 := (HRS.out).frozen 2; have f3 := (HRS.out).frozen 3
      go_wp2_with fail
      refine bodyPost_ret (v := setOf F) (by simp [results, Try.results16, go_sem, d0, d1, d2, d3]; try rfl) rfl ⟨by rw [HF.out]; rfl, ?_⟩
      exact putS_below HB.out (by omega) F
theorem pAny_any (p : Pat) : Wf p → pAnyC p := by
  refine Pat.ind (M := fun p => Wf p → pAnyC p) ?_ ?_ ?_ ?_ p
  · intro f _ w a n c h
    obtain rfl : n = 0 := by
      obtain ⟨a', c', hn⟩ := KAt.slice h
      injection hn with _ hn _
    have := pAny_node 1 f 0 0 [] (by simp) (by simp) w a c h
    rw [show (fun x => f x || anyL [] x) = anyP (.one f) from by funext x; simp [anyL, anyP]] at this
    exact this
  · intro l ih hw w a n c h
    cases hw with | cat _ h1 h2 h3 =>
    obtain rfl : n = l.length := by
      obtain ⟨a', c', hn⟩ := KAt.slice h
      injection hn with _ hn _
      rw [trees_len] at hn; exact hn
    have := pAny_node 2 emp 0 0 l h3 (fun p hp => ih p hp (h1 p hp)) w a c h
    rw [show (fun x => emp x || anyL l x) = anyP (.cat l) from by funext x; simp [emp, anyP]] at this
    exact this
  · intro l ih hw w a n c h
    cases hw with | alt _ h1 h2 h3 =>
    obtain rfl : n = l.length := by
      obtain ⟨a', c', hn⟩ := KAt.slice h
      injection hn with _ hn _
      rw [trees_len] at hn; exact hn
    have := pAny_node 3 emp 0 0 l h3 (fun p hp => ih p hp (h1 p hp)) w a c h
    rw [show (fun x => emp x || anyL l x) = anyP (.alt l) from by funext x; simp [emp, anyP]] at this
    exact this
  · intro mn mx p ih hw w a n c h
    cases hw with | rep _ _ _ h1 h2 h3 h4 =>
    obtain rfl : n = 1 := by
      obtain ⟨a', c', hn⟩ := KAt.slice h
      injection hn with _ hn _
    have := pAny_node 4 emp (mn : Int) (mx : Int) [p] (by simp) (fun q hq => by simp at hq; subst hq; exact ih h1) w a c h
    rw [show (fun x => emp x || anyL [p] x) = anyP (.rep mn mx p) from by funext x; simp [emp, anyL, anyP]] at this
    exact this
/-- what snaffleref02.Any does with a pattern -/
def rAnyC (p : Pat) : Prop := ∀ (w : World) (a : Option Addr) (n c : Nat), NAt w p.tree (.slice a n c) → Calls Try.prog 17 #[nodeV p.tree (.slice a n c)] w fun e w' => e = .returned (setOf (anyP p)) ∧ Below w.heap.size w w'
set_option maxRecDepth 100000 in
set_option maxHeartbeats 1600000 in
theorem rAny_node (op : Int) (f : Nat → Bool) (mn mx : Int) (ps : List Pat) (hl : ps.length ≤ 1000) (ih : ∀ p ∈ ps, rAnyC p) (w : World) (a : Option Addr) (c : Nat) (h : NAt w (.node op f mn mx (Pat.trees ps)) (.slice a ps.length c)) :
    Calls Try.prog 17 #[.agg #[.int .i64 op, .int .u64 ((wd f 0 : Nat) : Int), .int .u64 ((wd f 1 : Nat) : Int), .int .u64 ((wd f 2 : Nat) : Int), .int .u64 ((wd f 3 : Nat) : Int), .int .i64 mn, .int .i64 mx, .slice a ps.length c]] w fun e w' => e = .returned (setOf fun x => f x || anyL ps x) ∧ Below w.heap.size w w' := by
  obtain ⟨w0, hw0⟩ : ∃ w0 : World, w0 = ((w.alloc (.cells (nodeC op f mn mx (.slice a ps.length c)) 29)).alloc (.cells (setC 0 0 0 0) 26)).alloc (.cells (cellsOf f) 26) := ⟨_, rfl⟩
  have H := Lib.hid h
  have HA : Hid (AtG w0 w.heap.size 29 (nodeC op f mn mx (.slice a ps.length c))) := Lib.hid (by rw [hw0]; exact ((AtG.new _ _ _).alloc _).alloc _)
  have HR : Hid (AtG w0 (w.heap.size + 1) 26 (setC 0 0 0 0)) := Lib.hid (by
    rw [hw0]
    have := (AtG.new (w.alloc (.cells (nodeC op f mn mx (.slice a ps.length c)) 29)) 26 (setC 0 0 0 0)).alloc (.cells (cellsOf f) 26)
    simpa using this)
  have HS : Hid (AtG w0 (w.heap.size + 1 + 1) 26 (cellsOf fun x => f x || anyL (ps.take 0) x)) := Lib.hid (by
    rw [hw0, show (cellsOf fun x => f x || anyL (ps.take 0) x) = cellsOf f from cellsOf_ext fun x _ => by simp [anyL]]
    have := AtG.new ((w.alloc (.cells (nodeC op f mn mx (.slice a ps.length c)) 29)).alloc (.cells (setC 0 0 0 0) 26)) 26 (cellsOf f)
    simpa using this)
  have HB0 : Hid (Below w.heap.size w w0) := Lib.hid (by rw [hw0]; go_grown)
  have hlI : (ps.length : Int) ≤ 1000 := by omega
  have hw0' : ((w.alloc (.cells #[.int .i64 op, .int .u64 ((wd f 0 : Nat) : Int), .int .u64 ((wd f 1 : Nat) : Int), .int .u64 ((wd f 2 : Nat) : Int), .int .u64 ((wd f 3 : Nat) : Int), .int .i64 mn, .int .i64 mx, .slice a ps.length c] 29)).alloc (.cells (setC 0 0 0 0) 26)).alloc (.cells #[.int .u64 ((wd f 0 : Nat) : Int), .int .u64 ((wd f 1 : Nat) : Int), .int .u64 ((wd f 2 : Nat) : Int), .int .u64 ((wd f 3 : Nat) : Int)] 26) = w0 := hw0.symm
  have m0 : w0.cell? ⟨w.heap.size, 0, none⟩ = some (.int .i64 op) := HA.out.cell 0 _ rfl
  have m1 : w0.cell? ⟨w.heap.size, 1, none⟩ = some (.int .u64 ((wd f 0 : Nat) : Int)) := HA.out.cell 1 _ rfl
  have m2 : w0.cell? ⟨w.heap.size, 2, none⟩ = some (.int .u64 ((wd f 1 : Nat) : Int)) := HA.out.cell 2 _ rfl
  have m3 : w0.cell? ⟨w.heap.size, 3, none⟩ = some (.int .u64 ((wd f 2 : Nat) : Int)) := HA.out.cell 3 _ rfl
  have m4 : w0.cell? ⟨w.heap.size, 4, none⟩ = some (.int .u64 ((wd f 3 : Nat) : Int)) := HA.out.cell 4 _ rfl
  have m5 : w0.cell? ⟨w.heap.size, 5, none⟩ = some (.int .i64 mn) := HA.out.cell 5 _ rfl
  have m6 : w0.cell? ⟨w.heap.size, 6, none⟩ = some (.int .i64 mx) := HA.out.cell 6 _ rfl
  have m7 : w0.cell? ⟨w.heap.size, 7, none⟩ = some (.slice a ps.length c) := HA.out.cell 7 _ rfl
  clear h hw0
  unfold setOf
  go_enter Try.func17, Try.ntmps17
  go_wp2_with fail
  clear hw0' m0 m1 m2 m3 m4 m5 m6 m7
  go_loopw [4] (fun i wr => ∃ k : Nat, k ≤ ps.length ∧ i = .int .i64 k ∧ AtG wr w.heap.size 29 (nodeC op f mn mx (.slice a ps.length c)) ∧ AtG wr (w.heap.size + 1) 26 (setC 0 0 0 0) ∧ AtG wr (w.heap.size + 1 + 1) 26 (cellsOf fun x => f x || anyL (ps.take k) x) ∧ Below w.heap.size w wr) (fun i _ => ps.length - (intOf i).toNat)
  case atStart => exact ⟨0, Nat.zero_le _, rfl, HA.out, HR.out, HS.out, HB0.out⟩
  case round =>
    clear HA HR HS HB0
    obtain ⟨k, hk, rfl, hat, hrs, hst, hb⟩ := hrel
    have HAT := Lib.hid hat; have HB := Lib.hid hb; have HRS := Lib.hid hrs; have HST := Lib.hid hst
    have m7 : wr.cell? ⟨w.heap.size, 7, none⟩ = some (.slice a ps.length c) := hat.cell 7 _ rfl
    clear hat hb hrs hst
    by_cases hlt : k < ps.length
    · obtain ⟨b, off, cap, heq, hcap, op', f', mn', mx', kids', ka, kc, ht, hc8, hkn⟩ := kid_at H.out (trees_get hlt)
      injection heq with e1 e2 e3
      subst e1; subst e3
      clear e2
      rw [trees_len] at hcap
      have hI := ih ps[k] (List.getElem_mem hlt)
      unfold rAnyC at hI
      rw [ht] at hI hkn
      have hI2 := fun w h => hI w ka kids'.length kc h
      unfold nodeV at hI2
      have HE : Hid ((fun x => (f x || anyL (ps.take k) x) || anyP ps[k] x) = fun x => f x || anyL (ps.take (k + 1)) x) := Lib.hid (by
        funext x; rw [anyL_snoc ps k hlt, Bool.or_assoc])
      generalize anyP ps[k] = G at *
      obtain ⟨F, hF⟩ : ∃ F : Nat → Bool, F = fun x => f x || anyL (ps.take k) x := ⟨_, rfl⟩
      have HE2 : Hid ((fun x => F x || G x) = fun x => f x || anyL (ps.take (k + 1)) x) := Lib.hid (by rw [← HE.out, hF])
      rw [← hF] at HST
      have HI := Lib.hid hI2; have HKN := Lib.hid hkn
      obtain ⟨kn, hkl⟩ : ∃ kn, kn = kids'.length := ⟨_, rfl⟩
      rw [← hkl] at HKN HI hc8
      have HC8 := Lib.hid hc8
      have hlb : b < w.heap.size := World.block_lt_of_cell? w _ hc8.c0
      have HWS := Lib.hid HB.out.size
      clear hkn hI hI2 hkl ht hF HE hc8
      go_upto_region 5 with (fail)
      refine RgX.start (by kernel_rfl) [(8, fun w5 w6 => ∃ g, w6 = putS w5 (w.heap.size + 1 + 1) g)] [⟨fun w5 => AtG w5 w.heap.size 29 (nodeC op f mn mx (.slice (some ⟨b, off, none⟩) ps.length c)) ∧ AtG w5 (w.heap.size + 1) 26 (setC 0 0 0 0) ∧ Below w.heap.size w w5, none⟩, ⟨fun w5 => AtG w5 (w.heap.size + 1 + 1) 26 (cellsOf F), some 8⟩] ⟨⟨fun _ _ h hb => ⟨h.1.below hb, h.2.1.below hb, h.2.2.trans (hb.mono h.2.2.size)⟩, ⟨fun _ _ _ _ => (fun w5 w6 h he => by obtain ⟨g, rfl⟩ := he; exact ⟨putS_far h.1 (by omega) _, putS_far h.2.1 (by omega) _, putS_below h.2.2 (by omega) _⟩), trivial⟩⟩, ⟨fun _ _ h hb => h.below hb, ⟨fun _ h _ _ => absurd rfl h, trivial⟩⟩, trivial⟩ (by kernel_rfl) (by kernel_rfl) ⟨⟨HAT.out.drew, HRS.out.drew, HB.out.drew⟩, HST.out.drew, trivial⟩ ?_
      show RgX.Build _ _ _ _ _ _ 0 [_, _, _, _, _, _, _, _, _] []
      refine RgX.build_cons (m := 1) (r := RgX.eq _) (RgX.one_plain (by rfl) (by (intro ax wx hk Kx hK; have k3 := hk.base 3 _ rfl rfl; have hL := hk.fact 0 0 _ rfl rfl; (try dsimp only at hL); have hs := hk.fact 1 1 _ rfl rfl; (try dsimp only at hs); clear hk; have z0 : wx.cell? ⟨w.heap.size + 1 + 1, 0, none⟩ = some (.int .u64 ((wd (F) 0 : Nat) : Int)) := hs.cell 0 _ rfl; have z1 : wx.cell? ⟨w.heap.size + 1 + 1, 1, none⟩ = some (.int .u64 ((wd (F) 1 : Nat) : Int)) := hs.cell 1 _ rfl; have z2 : wx.cell? ⟨w.heap.size + 1 + 1, 2, none⟩ = some (.int .u64 ((wd (F) 2 : Nat) : Int)) := hs.cell 2 _ rfl; have z3 : wx.cell? ⟨w.heap.size + 1 + 1, 3, none⟩ = some (.int .u64 ((wd (F) 3 : Nat) : Int)) := hs.cell 3 _ rfl; go_simp; refine hK _ _ (fun h => by cases h) (fun _ _ => ?_) (Below.refl _ _); apply RgX.mk))) ?_ rfl RgX.keep_eq (fun _ h => by cases h)
      refine RgX.build_cons (m := 2) (r := RgX.eq _) (RgX.one_plain (by rfl) (by (intro ax wx hk Kx hK; have k1 := hk.base 1 _ rfl rfl; have hL := hk.fact 0 0 _ rfl rfl; (try dsimp only at hL); have hs := hk.fact 1 1 _ rfl rfl; (try dsimp only at hs); clear hk; go_simp; refine hK _ _ (fun h => by cases h) (fun _ _ => ?_) (Below.refl _ _); apply RgX.mk))) ?_ rfl RgX.keep_eq (fun _ h => by cases h)
      refine RgX.build_cons (m := 3) (r := RgX.eq _) (RgX.one_plain (by rfl) (by (intro ax wx hk Kx hK; obtain ⟨v15, k15, h15⟩ := hk.dep 0 1 15 _ rfl rfl rfl; (first | (replace h15 := h15 9 undef rfl rfl; first | (cases (h15 : v15 = _)) | (obtain ⟨rfl, h15⟩ := h15) | skip) | skip); have hL := hk.fact 0 0 _ rfl rfl; (try dsimp only at hL); have hs := hk.fact 1 1 _ rfl rfl; (try dsimp only at hs); clear hk; have m7 : wx.cell? ⟨w.heap.size, 7, none⟩ = some (.slice (some ⟨b, off, none⟩) ps.length c) := hL.1.cell 7 _ rfl; go_simp; refine hK _ _ (fun h => by cases h) (fun _ _ => ?_) (Below.refl _ _); apply RgX.mk))) ?_ rfl RgX.keep_eq (fun _ h => by cases h)
      refine RgX.build_cons (m := 4) (r := RgX.eq _) (RgX.one_plain (by rfl) (by (intro ax wx hk Kx hK; have k4 := hk.base 4 _ rfl rfl; have hL := hk.fact 0 0 _ rfl rfl; (try dsimp only at hL); have hs := hk.fact 1 1 _ rfl rfl; (try dsimp only at hs); clear hk; go_simp; refine hK _ _ (fun h => by cases h) (fun _ _ => ?_) (Below.refl _ _); apply RgX.mk))) ?_ rfl RgX.keep_eq (fun _ h => by cases h)
      refine RgX.build_cons (m := 5) (r := RgX.eq _) (RgX.one_plain (by rfl) (by (intro ax wx hk Kx hK; obtain ⟨v16, k16, h16⟩ := hk.dep 0 2 16 _ rfl rfl rfl; (first | (replace h16 := h16 9 undef rfl rfl; first | (cases (h16 : v16 = _)) | (obtain ⟨rfl, h16⟩ := h16) | skip) | skip); obtain ⟨v17, k17, h17⟩ := hk.dep 0 3 17 _ rfl rfl rfl; (first | (replace h17 := h17 9 undef rfl rfl; first | (cases (h17 : v17 = _)) | (obtain ⟨rfl, h17⟩ := h17) | skip) | skip); have hL := hk.fact 0 0 _ rfl rfl; (try dsimp only at hL); have hs := hk.fact 1 1 _ rfl rfl; (try dsimp only at hs); clear hk; go_simp; refine hK _ _ (fun h => by cases h) (fun _ _ => ?_) (Below.refl _ _); apply RgX.mk))) ?_ rfl RgX.keep_eq (fun _ h => by cases h)
      refine RgX.build_cons (m := 6) (r := RgX.eq _) (RgX.one_plain (by rfl) (by (intro ax wx hk Kx hK; obtain ⟨v18, k18, h18⟩ := hk.dep 0 4 18 _ rfl rfl rfl; (first | (replace h18 := h18 9 undef rfl rfl; first | (cases (h18 : v18 = _)) | (obtain ⟨rfl, h18⟩ := h18) | skip) | skip); have hL := hk.fact 0 0 _ rfl rfl; (try dsimp only at hL); have hs := hk.fact 1 1 _ rfl rfl; (try dsimp only at hs); clear hk; obtain ⟨c0, c1, c2, c3, c4, c5, c6, c7⟩ := Cell8.below HC8.out hL.2.2; go_simp; refine hK _ _ (fun h => by cases h) (fun _ _ => ?_) (Below.refl _ _); apply RgX.mk))) ?_ rfl RgX.keep_eq (fun _ h => by cases h)
      refine RgX.build_cons (m := 7) (r := RgX.eq _) (RgX.one_plain (by rfl) (by (intro ax wx hk Kx hK; obtain ⟨v19, k19, h19⟩ := hk.dep 0 5 19 _ rfl rfl rfl; (first | (replace h19 := h19 9 undef rfl rfl; first | (cases (h19 : v19 = _)) | (obtain ⟨rfl, h19⟩ := h19) | skip) | skip); have hL := hk.fact 0 0 _ rfl rfl; (try dsimp only at hL); have hs := hk.fact 1 1 _ rfl rfl; (try dsimp only at hs); clear hk; go_simp; refine (HI.out _ (NAt.below HKN.out hL.2.2)).mono ?_; rintro e w' ⟨rfl, hb⟩; refine hK _ _ (fun h => by cases h) (fun _ _ => ?_) hb; apply RgX.mk))) ?_ rfl RgX.keep_eq (fun _ h => by cases h)
      refine RgX.build_cons (m := 8) (r := RgX.eq _) (RgX.one_plain (by rfl) (by (intro ax wx hk Kx hK; obtain ⟨v14, k14, h14⟩ := hk.dep 0 0 14 _ rfl rfl rfl; (first | (replace h14 := h14 9 undef rfl rfl; first | (cases (h14 : v14 = _)) | (obtain ⟨rfl, h14⟩ := h14) | skip) | skip); obtain ⟨v20, k20, h20⟩ := hk.dep 0 6 20 _ rfl rfl rfl; (first | (replace h20 := h20 9 undef rfl rfl; first | (cases (h20 : v20 = _)) | (obtain ⟨rfl, h20⟩ := h20) | skip) | skip); have hL := hk.fact 0 0 _ rfl rfl; (try dsimp only at hL); have hs := hk.fact 1 1 _ rfl rfl; (try dsimp only at hs); clear hk; go_simp; refine (refOr_any F G _).mono ?_; rintro e w' ⟨rfl, hb⟩; refine hK _ _ (fun h => by cases h) (fun _ _ => ?_) hb; apply RgX.mk))) ?_ rfl RgX.keep_eq (fun _ h => by cases h)
      refine RgX.build_cons (m := 9) (r := (⟨fun _ _ w5 => AtG w5 (w.heap.size + 1 + 1) 26 (cellsOf fun x => F x || G x), none, none⟩ : RgX.Rl)) (RgX.one_plain (by rfl) (by (intro ax wx hk Kx hK; have k3 := hk.base 3 _ rfl rfl; obtain ⟨v21, k21, h21⟩ := hk.dep 0 7 21 _ rfl rfl rfl; (first | (replace h21 := h21 9 undef rfl rfl; first | (cases (h21 : v21 = _)) | (obtain ⟨rfl, h21⟩ := h21) | skip) | skip); have hL := hk.fact 0 0 _ rfl rfl; (try dsimp only at hL); have hs := hk.fact 1 0 _ rfl rfl; (try dsimp only at hs); clear hk; (have d0 : wx.cell? ⟨w.heap.size + 1 + 1, 0, none⟩ = some (.int .u64 ((wd (F) 0 : Nat) : Int)) := hs.cell 0 _ rfl; have d1 : wx.cell? ⟨w.heap.size + 1 + 1, 1, none⟩ = some (.int .u64 ((wd (F) 1 : Nat) : Int)) := hs.cell 1 _ rfl; have d2 : wx.cell? ⟨w.heap.size + 1 + 1, 2, none⟩ = some (.int .u64 ((wd (F) 2 : Nat) : Int)) := hs.cell 2 _ rfl; have d3 : wx.cell? ⟨w.heap.size + 1 + 1, 3, none⟩ = some (.int .u64 ((wd (F) 3 : Nat) : Int)) := hs.cell 3 _ rfl; have f0 := hs.frozen 0; have f1 := hs.frozen 1; have f2 := hs.frozen 2; have f3 := hs.frozen 3; unfold setOf at k21; go_simp; exact hK undef _ (fun _ => rfl) (fun u hu => putS_at hs _) ⟨_, rfl⟩)))) ?_ rfl (RgX.keep_r (fun _ _ _ _ h hb => h.below hb) (fun _ _ => ⟨fun h _ _ _ => absurd rfl h, trivial⟩)) (fun _ h => by cases h)
      refine RgX.build_end fun wx hj => ?_
      have hL := hj 0 _ rfl rfl
      clear hj
      refine RgX.fin_eq rfl ?_
      refine RgX.fin_eq rfl ?_
      refine RgX.fin_eq rfl ?_
      refine RgX.fin_eq rfl ?_
      refine RgX.fin_eq rfl ?_
      refine RgX.fin_eq rfl ?_
      refine RgX.fin_eq rfl ?_
      refine RgX.fin_eq rfl ?_
      refine RgX.fin_none rfl fun s8 => ?_
      refine RgX.fin_nil ?_
      simp only [List.set_cons_zero, List.set_cons_succ]
      have hs5 := s8 rfl undef rfl
      rw [HE2.out] at hs5
      have HL := Lib.hid hL; have HS5 := Lib.hid hs5
      clear s8 hL hs5
      go_wp2_with fail
      exact ⟨⟨k + 1, by omega, by go_num, HL.out.1, HL.out.2.1, HS5.out, HL.out.2.2⟩, by simp [intOf]; omega⟩
    · obtain rfl : k = ps.length := by omega
      rw [List.take_length] at HST
      obtain ⟨F, hF⟩ : ∃ F : Nat → Bool, F = fun x => f x || anyL ps x := ⟨_, rfl⟩
      rw [← hF] at HST
      have HF := Lib.hid hF
      clear hF
      have z0 : wr.cell? ⟨w.heap.size + 1 + 1, 0, none⟩ = some (.int .u64 ((wd (F) 0 : Nat) : Int)) := HST.out.cell 0 _ rfl
      have z1 : wr.cell? ⟨w.heap.size + 1 + 1, 1, none⟩ = some (.int .u64 ((wd (F) 1 : Nat) : Int)) := HST.out.cell 1 _ rfl
      have z2 : wr.cell? ⟨w.heap.size + 1 + 1, 2, none⟩ = some (.int .u64 ((wd (F) 2 : Nat) : Int)) := HST.out.cell 2 _ rfl
      have z3 : wr.cell? ⟨w.heap.size + 1 + 1, 3, none⟩ = some (.int .u64 ((wd (F) 3 : Nat) : Int)) := HST.out.cell 3 _ rfl
      have d0 := (HRS.out).cell 0 _ rfl; have d1 := (HRS.out).cell 1 _ rfl; have d2 := (HRS.out).cell 2 _ rfl; have d3 := (HRS.out).cell 3 _ rfl
      have f0 := (HRS.out).frozen 0; have f1 := (HRS.out).frozen 1; have f2 := (HRS.out).frozen 2; have f3 := (HRS.out).frozen 3
      go_wp2_with fail
      refine bodyPost_ret (v := setOf F) (by simp [results, Try.results17, go_sem, d0, d1, d2, d3]; try rfl) rfl ⟨by rw [HF.out]; rfl, ?_⟩
      exact putS_below HB.out (by omega) F
theorem rAny_any (p : Pat) : Wf p → rAnyC p := by
  refine Pat.ind (M := fun p => Wf p → rAnyC p) ?_ ?_ ?_ ?_ p
  · intro f _ w a n c h
    obtain rfl : n = 0 := by
      obtain ⟨a', c', hn⟩ := KAt.slice h
      injection hn with _ hn _
    have := rAny_node 1 f 0 0 [] (by simp) (by simp) w a c h
    rw [show (fun x => f x || anyL [] x) = anyP (.one f) from by funext x; simp [anyL, anyP]] at this
    exact this
  · intro l ih hw w a n c h
    cases hw with | cat _ h1 h2 h3 =>
    obtain rfl : n = l.length := by
      obtain ⟨a', c', hn⟩ := KAt.slice h
      injection hn with _ hn _
      rw [trees_len] at hn; exact hn
    have := rAny_node 2 emp 0 0 l h3 (fun p hp => ih p hp (h1 p hp)) w a c h
    rw [show (fun x => emp x || anyL l x) = anyP (.cat l) from by funext x; simp [emp, anyP]] at this
    exact this
  · intro l ih hw w a n c h
    cases hw with | alt _ h1 h2 h3 =>
    obtain rfl : n = l.length := by
      obtain ⟨a', c', hn⟩ := KAt.slice h
      injection hn with _ hn _
      rw [trees_len] at hn; exact hn
    have := rAny_node 3 emp 0 0 l h3 (fun p hp => ih p hp (h1 p hp)) w a c h
    rw [show (fun x => emp x || anyL l x) = anyP (.alt l) from by funext x; simp [emp, anyP]] at this
    exact this
  · intro mn mx p ih hw w a n c h
    cases hw with | rep _ _ _ h1 h2 h3 h4 =>
    obtain rfl : n = 1 := by
      obtain ⟨a', c', hn⟩ := KAt.slice h
      injection hn with _ hn _
    have := rAny_node 4 emp (mn : Int) (mx : Int) [p] (by simp) (fun q hq => by simp at hq; subst hq; exact ih h1) w a c h
    rw [show (fun x => emp x || anyL [p] x) = anyP (.rep mn mx p) from by funext x; simp [emp, anyL, anyP]] at this
    exact this
end Go.Proofs.Ytofgkildlhcpdaa
