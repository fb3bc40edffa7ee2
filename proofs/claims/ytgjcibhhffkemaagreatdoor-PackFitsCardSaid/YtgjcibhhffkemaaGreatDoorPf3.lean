/- The document's Reader: atom, with brackets. -/
import Derived.Test.YtgjcibhhffkemaaGreatDoorPf2
import Derived.WalkKit
import Derived.Laws.MakeOwn
import Derived.WalkLawsBesides
set_option linter.unusedVariables false
set_option linter.unusedSimpArgs false
namespace Go.Proofs.YtgjcibhhffkemaaGreatDoor
open Go.RowKit Bt
theorem wd_emp (i : Nat) : ((wd emp i : Nat) : Int) = 0 := by unfold emp; rw [wd_none]; rfl
set_option maxRecDepth 100000 in
set_option maxHeartbeats 1600000 in
theorem atom_deep (g : Nat) (s : ByteArray) (p o : Nat) (x : Int) (w : World) (h : AtG w g 114 (rdr s p o 0 x)) (hp : p ≤ s.size) (hm : s.size ≤ 1000) (hc : ch s p = 40) (ho : o = 20) :
    Calls Tryz.prog 96 #[.pointer (some ⟨g, 0, none⟩)] w (NPost s g o x w .atom p) := by
  have HM := Lib.hid hm; have HLT := Lib.hid h.lt; have H0 := Lib.hid (atM_start h)
  have HN0 := next_ch g s p o x _ (AtG.alloc h (.cells nodeZ 41)) (by omega) (by omega)
  have hp1 := ch_ge (s := s) (p := p) (by omega)
  obtain ⟨pi, hpi⟩ : ∃ pi : Int, pi = ((p + 1 : Nat) : Int) := ⟨_, rfl⟩
  have hpi2 : pi - 1 = (p : Int) := by omega
  have hpi3 : 0 ≤ pi - 1 := by omega
  have hpi4 : pi < 10000 := by omega
  have HPP : Hid (P s .atom o p (.no 4 p)) := Lib.hid (P.deep hc ho)
  subst ho
  rw [hc] at HN0
  rw [← hpi] at HN0
  have HN0 := Lib.hid HN0
  clear h hp hm hc hpi hp1
  go_enter Tryz.func96, Tryz.ntmps96
  go_wp2_with fail
  refine (HN0.out).mono ?_
  rintro e9 w1 ⟨rfl, hA, hO⟩
  have HA1 := Lib.hid hA; have HO1 := Lib.hid hO
  clear hA hO
  have z1 : w1.cell? ⟨g, 1, none⟩ = some (.int .i64 pi) := HA1.out.cell 1 _ rfl
  have z2 : w1.cell? ⟨g, 2, none⟩ = some (.int .i64 20) := HA1.out.cell 2 _ rfl
  go_wp2_with fail
  refine (failO g s _ _ x _ 4 _ HA1.out).mono ?_
  rintro e9 wn ⟨rfl, hA2, hO2⟩
  have HN := Lib.hid (H0.out.next (r' := .no 4 p) HLT.out (HO1.out.tr hO2) ⟨_, hA2⟩)
  have HSZ := Lib.hid (show w.heap.size < wn.heap.size from HN.out.cell.lt)
  clear hA2 hO2 z1 z2
  have d0 : wn.cell? ⟨w.heap.size, 0, none⟩ = some (.int .i64 0) := (HN.out.cell).cell 0 _ rfl
  have d1 : wn.cell? ⟨w.heap.size, 1, none⟩ = some (.int .u64 0) := (HN.out.cell).cell 1 _ rfl
  have d2 : wn.cell? ⟨w.heap.size, 2, none⟩ = some (.int .u64 0) := (HN.out.cell).cell 2 _ rfl
  have d3 : wn.cell? ⟨w.heap.size, 3, none⟩ = some (.int .u64 0) := (HN.out.cell).cell 3 _ rfl
  have d4 : wn.cell? ⟨w.heap.size, 4, none⟩ = some (.int .u64 0) := (HN.out.cell).cell 4 _ rfl
  have d5 : wn.cell? ⟨w.heap.size, 5, none⟩ = some (.int .i64 0) := (HN.out.cell).cell 5 _ rfl
  have d6 : wn.cell? ⟨w.heap.size, 6, none⟩ = some (.int .i64 0) := (HN.out.cell).cell 6 _ rfl
  have d7 : wn.cell? ⟨w.heap.size, 7, none⟩ = some (.slice none 0 0) := (HN.out.cell).cell 7 _ rfl
  have f0 := (HN.out.cell).frozen 0; have f1 := (HN.out.cell).frozen 1; have f2 := (HN.out.cell).frozen 2; have f3 := (HN.out.cell).frozen 3
  have f4 := (HN.out.cell).frozen 4; have f5 := (HN.out.cell).frozen 5; have f6 := (HN.out.cell).frozen 6; have f7 := (HN.out.cell).frozen 7
  go_wp2_with fail
  refine bodyPost_ret (v := nodeV (.node 0 emp 0 0 []) (.slice none 0 0)) (by unfold nodeV; simp [results, Tryz.results96, go_sem, wd_emp, d0, d1, d2, d3, d4, d5, d6, d7]; try rfl) rfl ?_
  have hfin := node_post (r := .no 4 p) (op := 0) (f := emp) (mn := 0) (mx := 0) (kids := []) (kv := .slice none 0 0) HPP.out (StR.ununit HN.out.st) HN.out.only HLT.out HSZ.out (kat_one _ _ _ _ _ _) (fun _ _ h => by cases h)
  unfold putN at hfin
  rw [wd_emp, wd_emp, wd_emp, wd_emp] at hfin
  exact hfin
/-- what pattern does, from place p0 on -/
def PatC (s : ByteArray) (g : Nat) (x : Int) (p0 : Nat) : Prop := ∀ p, p0 ≤ p → p ≤ s.size → ∀ o : Nat, o ≤ 20 → ∀ w, AtG w g 114 (rdr s (p : Int) (o : Int) 0 x) → Calls Tryz.prog 49 #[.pointer (some ⟨g, 0, none⟩)] w (NPost s g o x w .pat p)
theorem StR.g {α : Type} {s : ByteArray} {g : Nat} {o x : Int} {r : Re α} {w : World} (h : StR s g o x r w) : ∃ p c y, AtG w g 114 (rdr s p o c y) := by
  cases r with
  | ok a q => exact ⟨_, _, _, h⟩
  | no c y => obtain ⟨p, h⟩ := h; exact ⟨p, _, _, h⟩
theorem StR.open' {α : Type} {s : ByteArray} {g : Nat} {o o' x : Int} {r : Re α} {w : World} (h : StR s g o x r w) : StR s g o' x r (w.setCell ⟨g, 2, none⟩ (.int .i64 o')) := by
  cases r with
  | ok a q => exact AtG.set h 2 _
  | no c y => obtain ⟨p, h⟩ := h; exact ⟨p, h.set 2 _⟩
set_option maxRecDepth 100000 in
set_option maxHeartbeats 1600000 in
theorem atom_sub (g : Nat) (s : ByteArray) (p o : Nat) (x : Int) (w : World) (h : AtG w g 114 (rdr s p o 0 x)) (hp : p ≤ s.size) (hm : s.size ≤ 1000) (hc : ch s p = 40) (ho : o ≠ 20) (ho2 : o ≤ 20) (hpat : PatC s g x (p + 1)) :
    Calls Tryz.prog 96 #[.pointer (some ⟨g, 0, none⟩)] w (NPost s g o x w .atom p) := by
  have HM := Lib.hid hm; have HLT := Lib.hid h.lt; have H0 := Lib.hid (atM_start h)
  have HN0 := next_ch g s p o x _ (AtG.alloc h (.cells nodeZ 41)) (by omega) (by omega)
  have hp1 := ch_ge (s := s) (p := p) (by omega)
  obtain ⟨pi, hpi⟩ : ∃ pi : Int, pi = ((p + 1 : Nat) : Int) := ⟨_, rfl⟩
  have hpi2 : pi - 1 = (p : Int) := by omega
  have hpi3 : 0 ≤ pi - 1 := by omega
  have hpi4 : pi < 10000 := by omega
  have HP40 := Lib.hid hc
  have HOD := Lib.hid ho; have HO20 := Lib.hid ho2
  rw [hc] at HN0
  rw [← hpi] at HN0
  obtain ⟨oi, hoi⟩ : ∃ oi : Int, oi = (o : Int) := ⟨_, rfl⟩
  obtain ⟨oj, hoj⟩ : ∃ oj : Int, oj = ((o + 1 : Nat) : Int) := ⟨_, rfl⟩
  rw [← hoi] at HN0
  have ho3 : oi + 1 = oj := by omega
  have ho4 : oj - 1 = oi := by omega
  have e20 : (oi == 20) = false := by rw [beq_eq_false_iff_ne]; omega
  have ho5 : 0 ≤ oi := by omega
  have ho6 : oi < 20 := by omega
  have hpatw := fun w h => hpat (p + 1) (Nat.le_refl _) hp1 (o + 1) (by omega) w h
  rw [← hpi, ← hoj] at hpatw
  have HPAT := Lib.hid hpatw
  have HN0 := Lib.hid HN0
  have HPI := Lib.hid hpi; have HOI := Lib.hid hoi; have HOJ := Lib.hid hoj; have HP1 := Lib.hid hp1
  clear h hp hm hc hpi hp1 ho ho2 hoi hoj hpat hpatw
  go_enter Tryz.func96, Tryz.ntmps96
  go_wp2_with fail
  refine (HN0.out).mono ?_
  rintro e9 w1 ⟨rfl, hA, hO⟩
  have HA1 := Lib.hid hA; have HO1 := Lib.hid hO
  clear hA hO
  have z2 : w1.cell? ⟨g, 2, none⟩ = some (.int .i64 oi) := HA1.out.cell 2 _ rfl
  have x2 := HA1.out.frozen 2
  have HA2 := Lib.hid (show AtG (w1.setCell ⟨g, 2, none⟩ (.int .i64 oj)) g 114 (rdr s pi oj 0 x) from HA1.out.set 2 _)
  have HO2 := Lib.hid (HO1.out.st g 2 (.int .i64 oj) (.inl rfl))
  go_wp2_with fail
  refine (HPAT.out _ HA2.out).mono ?_
  rintro e9 w3 ⟨t, kv, rfl, hK, hO, r, hPr, hS, hi⟩
  obtain ⟨op, f, mn, mx, kids⟩ := t
  obtain ⟨ka, kc, rfl⟩ := KAt.slice hK
  obtain ⟨kn, hkn⟩ : ∃ kn, kn = kids.length := ⟨_, rfl⟩
  rw [← hkn] at hK ⊢
  clear hkn
  have hO13 := HO2.out.tr hO
  have hsz2 : w.heap.size + 1 ≤ (w1.setCell ⟨g, 2, none⟩ (.int .i64 oj)).heap.size := by
    have := HO1.out.size; simp at this ⊢; omega
  have hsz3 := hO.size
  obtain ⟨cs, hcs⟩ : ∃ cs : Array Value, cs = #[.int .i64 op, .int .u64 ((wd f 0 : Nat) : Int), .int .u64 ((wd f 1 : Nat) : Int), .int .u64 ((wd f 2 : Nat) : Int), .int .u64 ((wd f 3 : Nat) : Int), .int .i64 mn, .int .i64 mx, .slice ka kn kc] := ⟨_, rfl⟩
  have h3 : AtM s g oj x r.unit w w3 := by rw [HOJ.out]; exact H0.out.next (o' := ((o + 1 : Nat) : Int)) HLT.out hO13 (StR.unit hS)
  have H4 := Lib.hid (h3.al (.cells cs 41))
  have HK4 : Hid (KAt (Iv (w.heap.size + 1) (w3.alloc (.cells cs 41)).heap.size) (w3.alloc (.cells cs 41)) (.node op f mn mx kids) (.slice ka kn kc)) := Lib.hid
    (KAt.keep (fun b hb => ((Below.refl w3.heap.size w3).alloc (Nat.le_refl _) _).block b hb.2) (fun b hb => ⟨Nat.le_trans hsz2 hb.1, by have := hb.2; simp; omega⟩) _ _ hK)
  have HC4 := Lib.hid (AtG.new w3 41 cs)
  have HNE : Hid (w3.heap.size ≠ g ∧ g ≠ w3.heap.size ∧ w3.heap.size ≠ w.heap.size ∧ w.heap.size ≠ w3.heap.size) := Lib.hid (by
    have := HLT.out; omega)
  have HPR := Lib.hid hPr; have HI := Lib.hid hi
  have HPP : Hid (P s .atom o p (closeF s r)) := Lib.hid (P.sub HP40.out HOD.out hPr)
  have hrin := P.in hPr HP1.out
  have HRIN := Lib.hid hrin
  clear hK hO hO13 hsz2 hsz3 h3 hPr hS hi z2 x2 hrin
  subst hcs
  unfold nodeV
  dsimp only
  cases r with
  | no c y =>
    obtain ⟨pb, hS⟩ := H4.out.st
    have hcc : c ≠ 0 := by have := HRIN.out.1; omega
    have HS := Lib.hid hS; have HCC := Lib.hid hcc
    clear hS hcc
    go_wp2_with fail
    refine (next_bad g s pb oj c y _ HS.out HCC.out).mono ?_
    rintro e9 w5 ⟨rfl, hb⟩
    have HS5 := Lib.hid (HS.out.below hb); have H5 := Lib.hid (H4.out.below hb); have HC5 := Lib.hid (HC4.out.below hb); have HK5 := Lib.hid (KAt.below HK4.out hb hb.size)
    have z1 : w5.cell? ⟨g, 1, none⟩ = some (.int .i64 pb) := HS5.out.cell 1 _ rfl
    clear hb
    go_wp2_with fail
    refine (fail_no g s pb oj c y _ 2 _ HS5.out HCC.out).mono ?_
    rintro e9 w6 ⟨rfl, rfl⟩
    obtain ⟨pq, cq, yq, HAq⟩ := StR.g H5.out.st
    have z2 : w6.cell? ⟨g, 2, none⟩ = some (.int .i64 oj) := HAq.cell 2 _ rfl
    have x2 := HAq.frozen 2
    clear HAq pq cq yq
    have k0 : w6.cell? ⟨w3.heap.size, 0, none⟩ = some (.int .i64 op) := HC5.out.cell 0 _ rfl
    have k1 : w6.cell? ⟨w3.heap.size, 1, none⟩ = some (.int .u64 ((wd f 0 : Nat) : Int)) := HC5.out.cell 1 _ rfl
    have k2 : w6.cell? ⟨w3.heap.size, 2, none⟩ = some (.int .u64 ((wd f 1 : Nat) : Int)) := HC5.out.cell 2 _ rfl
    have k3 : w6.cell? ⟨w3.heap.size, 3, none⟩ = some (.int .u64 ((wd f 2 : Nat) : Int)) := HC5.out.cell 3 _ rfl
    have k4 : w6.cell? ⟨w3.heap.size, 4, none⟩ = some (.int .u64 ((wd f 3 : Nat) : Int)) := HC5.out.cell 4 _ rfl
    have k5 : w6.cell? ⟨w3.heap.size, 5, none⟩ = some (.int .i64 mn) := HC5.out.cell 5 _ rfl
    have k6 : w6.cell? ⟨w3.heap.size, 6, none⟩ = some (.int .i64 mx) := HC5.out.cell 6 _ rfl
    have k7 : w6.cell? ⟨w3.heap.size, 7, none⟩ = some (.slice ka kn kc) := HC5.out.cell 7 _ rfl
    have HN := Lib.hid (H5.out.next (o' := o) HLT.out ((Only.refl (S := fun k => k = g) _).st g 2 (.int .i64 oi) (.inl rfl)) (by have := StR.open' (o' := oi) H5.out.st; rw [HOI.out] at this ⊢; exact this))
    have HSZ := Lib.hid (show w.heap.size < (w6.setCell ⟨g, 2, none⟩ (.int .i64 oi)).heap.size from HN.out.cell.lt)
    have HKN := Lib.hid (KAt.only HK5.out ((Only.refl (S := fun k => k = g) w6).st g 2 (.int .i64 oi) (.inl rfl)) (fun b hb => ⟨hb.2, by have := hb.1; have := HLT.out; show ¬ (b = g); omega⟩))
    have d0 : w6.cell? ⟨w.heap.size, 0, none⟩ = some (.int .i64 0) := (H5.out.cell).cell 0 _ rfl
    have d1 : w6.cell? ⟨w.heap.size, 1, none⟩ = some (.int .u64 0) := (H5.out.cell).cell 1 _ rfl
    have d2 : w6.cell? ⟨w.heap.size, 2, none⟩ = some (.int .u64 0) := (H5.out.cell).cell 2 _ rfl
    have d3 : w6.cell? ⟨w.heap.size, 3, none⟩ = some (.int .u64 0) := (H5.out.cell).cell 3 _ rfl
    have d4 : w6.cell? ⟨w.heap.size, 4, none⟩ = some (.int .u64 0) := (H5.out.cell).cell 4 _ rfl
    have d5 : w6.cell? ⟨w.heap.size, 5, none⟩ = some (.int .i64 0) := (H5.out.cell).cell 5 _ rfl
    have d6 : w6.cell? ⟨w.heap.size, 6, none⟩ = some (.int .i64 0) := (H5.out.cell).cell 6 _ rfl
    have d7 : w6.cell? ⟨w.heap.size, 7, none⟩ = some (.slice none 0 0) := (H5.out.cell).cell 7 _ rfl
    have f0 := (H5.out.cell).frozen 0; have f1 := (H5.out.cell).frozen 1; have f2 := (H5.out.cell).frozen 2; have f3 := (H5.out.cell).frozen 3
    have f4 := (H5.out.cell).frozen 4; have f5 := (H5.out.cell).frozen 5; have f6 := (H5.out.cell).frozen 6; have f7 := (H5.out.cell).frozen 7
    have hn3 := HNE.out.1; have hn4 := HNE.out.2.1; have hn5 := HNE.out.2.2.1; have hn6 := HNE.out.2.2.2
    have hn7 : w.heap.size ≠ g := by have := HLT.out; omega
    have hn8 : g ≠ w.heap.size := by have := HLT.out; omega
    go_wp2_with fail
    refine bodyPost_ret (v := nodeV (.node op f mn mx kids) (.slice ka kn kc)) (by unfold nodeV; simp [results, Tryz.results96, go_sem, d0, d1, d2, d3, d4, d5, d6, d7, hn3, hn4, hn5, hn6, hn7, hn8]; try rfl) rfl ?_
    exact node_post (r := .no c y) HPP.out (StR.ununit HN.out.st) HN.out.only HLT.out HSZ.out (by have := HKN.out; simpa using this) (fun _ _ h => by cases h)
  | ok t' q =>
    have hi := HI.out t' q rfl
    subst hi
    have hS : AtG (w3.alloc (.cells #[.int .i64 op, .int .u64 ((wd f 0 : Nat) : Int), .int .u64 ((wd f 1 : Nat) : Int), .int .u64 ((wd f 2 : Nat) : Int), .int .u64 ((wd f 3 : Nat) : Int), .int .i64 mn, .int .i64 mx, .slice ka kn kc] 41)) g 114 (rdr s (q : Int) oj 0 x) := H4.out.st
    have HS := Lib.hid hS
    have hq := HRIN.out.2
    clear hS
    by_cases hc : ch s q < 0
    · have HN1 := Lib.hid (next_no g s q oj x _ HS.out hq hc)
      have HR : Hid (closeF s (.ok (.node op f mn mx kids) q) = .no 2 q) := Lib.hid (by rw [closeF, if_neg (by omega)])
      rw [HR.out] at HPP
      clear hc hq
      go_wp2_with fail
      refine (HN1.out).mono ?_
      rintro e9 w5 ⟨rfl, hA, hO⟩
      have HS5 := Lib.hid hA; have H5 := Lib.hid (H4.out.next (r' := .no 2 q) HLT.out hO ⟨_, hA⟩); have HC5 := Lib.hid (HC4.out.only hO HNE.out.1)
      have HK5 := Lib.hid (KAt.mono (KAt.only HK4.out hO (fun b hb => ⟨hb.2, by have := hb.1; have := HLT.out; show ¬ (b = g); omega⟩)) (D' := Iv (w.heap.size + 1) w5.heap.size) (fun b hb => ⟨hb.1, Nat.lt_of_lt_of_le hb.2 hO.size⟩))
      have z1 : w5.cell? ⟨g, 1, none⟩ = some (.int .i64 (q : Int)) := HS5.out.cell 1 _ rfl
      clear hA hO
      go_wp2_with fail
      refine (fail_no g s _ oj 2 _ _ 2 _ HS5.out (by decide)).mono ?_
      rintro e9 w6 ⟨rfl, rfl⟩
      obtain ⟨pq, cq, yq, HAq⟩ := StR.g H5.out.st
      have z2 : w6.cell? ⟨g, 2, none⟩ = some (.int .i64 oj) := HAq.cell 2 _ rfl
      have x2 := HAq.frozen 2
      clear HAq pq cq yq
      have k0 : w6.cell? ⟨w3.heap.size, 0, none⟩ = some (.int .i64 op) := HC5.out.cell 0 _ rfl
      have k1 : w6.cell? ⟨w3.heap.size, 1, none⟩ = some (.int .u64 ((wd f 0 : Nat) : Int)) := HC5.out.cell 1 _ rfl
      have k2 : w6.cell? ⟨w3.heap.size, 2, none⟩ = some (.int .u64 ((wd f 1 : Nat) : Int)) := HC5.out.cell 2 _ rfl
      have k3 : w6.cell? ⟨w3.heap.size, 3, none⟩ = some (.int .u64 ((wd f 2 : Nat) : Int)) := HC5.out.cell 3 _ rfl
      have k4 : w6.cell? ⟨w3.heap.size, 4, none⟩ = some (.int .u64 ((wd f 3 : Nat) : Int)) := HC5.out.cell 4 _ rfl
      have k5 : w6.cell? ⟨w3.heap.size, 5, none⟩ = some (.int .i64 mn) := HC5.out.cell 5 _ rfl
      have k6 : w6.cell? ⟨w3.heap.size, 6, none⟩ = some (.int .i64 mx) := HC5.out.cell 6 _ rfl
      have k7 : w6.cell? ⟨w3.heap.size, 7, none⟩ = some (.slice ka kn kc) := HC5.out.cell 7 _ rfl
      have HN := Lib.hid (H5.out.next (o' := o) HLT.out ((Only.refl (S := fun k => k = g) _).st g 2 (.int .i64 oi) (.inl rfl)) (by have := StR.open' (o' := oi) H5.out.st; rw [HOI.out] at this ⊢; exact this))
      have HSZ := Lib.hid (show w.heap.size < (w6.setCell ⟨g, 2, none⟩ (.int .i64 oi)).heap.size from HN.out.cell.lt)
      have HKN := Lib.hid (KAt.only HK5.out ((Only.refl (S := fun k => k = g) w6).st g 2 (.int .i64 oi) (.inl rfl)) (fun b hb => ⟨hb.2, by have := hb.1; have := HLT.out; show ¬ (b = g); omega⟩))
      have d0 : w6.cell? ⟨w.heap.size, 0, none⟩ = some (.int .i64 0) := (H5.out.cell).cell 0 _ rfl
      have d1 : w6.cell? ⟨w.heap.size, 1, none⟩ = some (.int .u64 0) := (H5.out.cell).cell 1 _ rfl
      have d2 : w6.cell? ⟨w.heap.size, 2, none⟩ = some (.int .u64 0) := (H5.out.cell).cell 2 _ rfl
      have d3 : w6.cell? ⟨w.heap.size, 3, none⟩ = some (.int .u64 0) := (H5.out.cell).cell 3 _ rfl
      have d4 : w6.cell? ⟨w.heap.size, 4, none⟩ = some (.int .u64 0) := (H5.out.cell).cell 4 _ rfl
      have d5 : w6.cell? ⟨w.heap.size, 5, none⟩ = some (.int .i64 0) := (H5.out.cell).cell 5 _ rfl
      have d6 : w6.cell? ⟨w.heap.size, 6, none⟩ = some (.int .i64 0) := (H5.out.cell).cell 6 _ rfl
      have d7 : w6.cell? ⟨w.heap.size, 7, none⟩ = some (.slice none 0 0) := (H5.out.cell).cell 7 _ rfl
      have f0 := (H5.out.cell).frozen 0; have f1 := (H5.out.cell).frozen 1; have f2 := (H5.out.cell).frozen 2; have f3 := (H5.out.cell).frozen 3
      have f4 := (H5.out.cell).frozen 4; have f5 := (H5.out.cell).frozen 5; have f6 := (H5.out.cell).frozen 6; have f7 := (H5.out.cell).frozen 7
      have hn3 := HNE.out.1; have hn4 := HNE.out.2.1; have hn5 := HNE.out.2.2.1; have hn6 := HNE.out.2.2.2
      have hn7 : w.heap.size ≠ g := by have := HLT.out; omega
      have hn8 : g ≠ w.heap.size := by have := HLT.out; omega
      go_wp2_with fail
      refine bodyPost_ret (v := nodeV (.node op f mn mx kids) (.slice ka kn kc)) (by unfold nodeV; simp [results, Tryz.results96, go_sem, d0, d1, d2, d3, d4, d5, d6, d7, hn3, hn4, hn5, hn6, hn7, hn8]; try rfl) rfl ?_
      exact node_post (r := .no 2 q) HPP.out (StR.ununit HN.out.st) HN.out.only HLT.out HSZ.out (by have := HKN.out; simpa using this) (fun _ _ h => by cases h)
    · have HN1 := Lib.hid (next_ch g s q oj x _ HS.out (by omega) (by have := HM.out; omega))
      have hR : ∀ c, ch s q = c → closeF s (.ok (.node op f mn mx kids) q) = if c = 41 then .ok (.node op f mn mx kids) (q + 1) else .no 2 q := fun c hc => by rw [closeF, hc]
      obtain ⟨qi, hqi⟩ : ∃ qi : Int, qi = ((q + 1 : Nat) : Int) := ⟨_, rfl⟩
      have hqi2 : qi - 1 = (q : Int) := by omega
      have hqi3 : 0 ≤ qi - 1 := by omega
      have hqi4 : qi < 10000 := by have := HM.out; omega
      have HQI := Lib.hid hqi
      generalize ch s q = c at *
      have hR := hR c rfl
      clear hqi hq hc
      by_cases h41 : c = 41
      · rw [hR, if_pos h41] at HPP
        subst h41
        clear hR
        go_wp2_with fail
        refine (HN1.out).mono ?_
        rintro e9 w5 ⟨rfl, hA, hO⟩
        have H5 := Lib.hid (H4.out.next (r' := .ok () (q + 1)) HLT.out hO hA); have HC5 := Lib.hid (HC4.out.only hO HNE.out.1)
        have HK5 := Lib.hid (KAt.mono (KAt.only HK4.out hO (fun b hb => ⟨hb.2, by have := hb.1; have := HLT.out; show ¬ (b = g); omega⟩)) (D' := Iv (w.heap.size + 1) w5.heap.size) (fun b hb => ⟨hb.1, Nat.lt_of_lt_of_le hb.2 hO.size⟩))
        clear hA hO
        obtain ⟨pq, cq, yq, HAq⟩ := StR.g H5.out.st
        have z2 : w5.cell? ⟨g, 2, none⟩ = some (.int .i64 oj) := HAq.cell 2 _ rfl
        have x2 := HAq.frozen 2
        clear HAq pq cq yq
        have k0 : w5.cell? ⟨w3.heap.size, 0, none⟩ = some (.int .i64 op) := HC5.out.cell 0 _ rfl
        have k1 : w5.cell? ⟨w3.heap.size, 1, none⟩ = some (.int .u64 ((wd f 0 : Nat) : Int)) := HC5.out.cell 1 _ rfl
        have k2 : w5.cell? ⟨w3.heap.size, 2, none⟩ = some (.int .u64 ((wd f 1 : Nat) : Int)) := HC5.out.cell 2 _ rfl
        have k3 : w5.cell? ⟨w3.heap.size, 3, none⟩ = some (.int .u64 ((wd f 2 : Nat) : Int)) := HC5.out.cell 3 _ rfl
        have k4 : w5.cell? ⟨w3.heap.size, 4, none⟩ = some (.int .u64 ((wd f 3 : Nat) : Int)) := HC5.out.cell 4 _ rfl
        have k5 : w5.cell? ⟨w3.heap.size, 5, none⟩ = some (.int .i64 mn) := HC5.out.cell 5 _ rfl
        have k6 : w5.cell? ⟨w3.heap.size, 6, none⟩ = some (.int .i64 mx) := HC5.out.cell 6 _ rfl
        have k7 : w5.cell? ⟨w3.heap.size, 7, none⟩ = some (.slice ka kn kc) := HC5.out.cell 7 _ rfl
        have HN := Lib.hid (H5.out.next (o' := o) HLT.out ((Only.refl (S := fun k => k = g) _).st g 2 (.int .i64 oi) (.inl rfl)) (by have := StR.open' (o' := oi) H5.out.st; rw [HOI.out] at this ⊢; exact this))
        have HSZ := Lib.hid (show w.heap.size < (w5.setCell ⟨g, 2, none⟩ (.int .i64 oi)).heap.size from HN.out.cell.lt)
        have HKN := Lib.hid (KAt.only HK5.out ((Only.refl (S := fun k => k = g) w5).st g 2 (.int .i64 oi) (.inl rfl)) (fun b hb => ⟨hb.2, by have := hb.1; have := HLT.out; show ¬ (b = g); omega⟩))
        have d0 : w5.cell? ⟨w.heap.size, 0, none⟩ = some (.int .i64 0) := (H5.out.cell).cell 0 _ rfl
        have d1 : w5.cell? ⟨w.heap.size, 1, none⟩ = some (.int .u64 0) := (H5.out.cell).cell 1 _ rfl
        have d2 : w5.cell? ⟨w.heap.size, 2, none⟩ = some (.int .u64 0) := (H5.out.cell).cell 2 _ rfl
        have d3 : w5.cell? ⟨w.heap.size, 3, none⟩ = some (.int .u64 0) := (H5.out.cell).cell 3 _ rfl
        have d4 : w5.cell? ⟨w.heap.size, 4, none⟩ = some (.int .u64 0) := (H5.out.cell).cell 4 _ rfl
        have d5 : w5.cell? ⟨w.heap.size, 5, none⟩ = some (.int .i64 0) := (H5.out.cell).cell 5 _ rfl
        have d6 : w5.cell? ⟨w.heap.size, 6, none⟩ = some (.int .i64 0) := (H5.out.cell).cell 6 _ rfl
        have d7 : w5.cell? ⟨w.heap.size, 7, none⟩ = some (.slice none 0 0) := (H5.out.cell).cell 7 _ rfl
        have f0 := (H5.out.cell).frozen 0; have f1 := (H5.out.cell).frozen 1; have f2 := (H5.out.cell).frozen 2; have f3 := (H5.out.cell).frozen 3
        have f4 := (H5.out.cell).frozen 4; have f5 := (H5.out.cell).frozen 5; have f6 := (H5.out.cell).frozen 6; have f7 := (H5.out.cell).frozen 7
        have hn3 := HNE.out.1; have hn4 := HNE.out.2.1; have hn5 := HNE.out.2.2.1; have hn6 := HNE.out.2.2.2
        have hn7 : w.heap.size ≠ g := by have := HLT.out; omega
        have hn8 : g ≠ w.heap.size := by have := HLT.out; omega
        go_wp2_with fail
        refine bodyPost_ret (v := nodeV (.node op f mn mx kids) (.slice ka kn kc)) (by unfold nodeV; simp [results, Tryz.results96, go_sem, d0, d1, d2, d3, d4, d5, d6, d7, hn3, hn4, hn5, hn6, hn7, hn8]; try rfl) rfl ?_
        exact node_post (r := .ok (.node op f mn mx kids) (q + 1)) HPP.out (StR.ununit HN.out.st) HN.out.only HLT.out HSZ.out (by have := HKN.out; simpa using this) (fun _ _ h => by injection h)
      · rw [hR, if_neg h41] at HPP
        have e41 : (c == 41) = false := by rw [beq_eq_false_iff_ne]; exact h41
        clear hR h41
        go_wp2_with fail
        refine (HN1.out).mono ?_
        rintro e9 w4 ⟨rfl, hA, hO⟩
        have hA' := hA
        rw [← HQI.out] at hA'
        have HS4 := Lib.hid hA'; have HC4' := Lib.hid (HC4.out.only hO HNE.out.1)
        have HO4 := Lib.hid hO
        have z1 : w4.cell? ⟨g, 1, none⟩ = some (.int .i64 qi) := HS4.out.cell 1 _ rfl
        clear hA hO hA'
        go_wp2_with fail
        refine (failO g s _ oj x _ 2 _ HS4.out).mono ?_
        rintro e9 w5 ⟨rfl, hA, hO⟩
        have H5 := Lib.hid (H4.out.next (r' := .no 2 q) HLT.out (HO4.out.tr hO) ⟨_, hA⟩); have HC5 := Lib.hid (HC4'.out.only hO HNE.out.1)
        have HK5 := Lib.hid (KAt.mono (KAt.only HK4.out (HO4.out.tr hO) (fun b hb => ⟨hb.2, by have := hb.1; have := HLT.out; show ¬ (b = g); omega⟩)) (D' := Iv (w.heap.size + 1) w5.heap.size) (fun b hb => ⟨hb.1, Nat.lt_of_lt_of_le hb.2 (HO4.out.tr hO).size⟩))
        clear hA hO z1
        obtain ⟨pq, cq, yq, HAq⟩ := StR.g H5.out.st
        have z2 : w5.cell? ⟨g, 2, none⟩ = some (.int .i64 oj) := HAq.cell 2 _ rfl
        have x2 := HAq.frozen 2
        clear HAq pq cq yq
        have k0 : w5.cell? ⟨w3.heap.size, 0, none⟩ = some (.int .i64 op) := HC5.out.cell 0 _ rfl
        have k1 : w5.cell? ⟨w3.heap.size, 1, none⟩ = some (.int .u64 ((wd f 0 : Nat) : Int)) := HC5.out.cell 1 _ rfl
        have k2 : w5.cell? ⟨w3.heap.size, 2, none⟩ = some (.int .u64 ((wd f 1 : Nat) : Int)) := HC5.out.cell 2 _ rfl
        have k3 : w5.cell? ⟨w3.heap.size, 3, none⟩ = some (.int .u64 ((wd f 2 : Nat) : Int)) := HC5.out.cell 3 _ rfl
        have k4 : w5.cell? ⟨w3.heap.size, 4, none⟩ = some (.int .u64 ((wd f 3 : Nat) : Int)) := HC5.out.cell 4 _ rfl
        have k5 : w5.cell? ⟨w3.heap.size, 5, none⟩ = some (.int .i64 mn) := HC5.out.cell 5 _ rfl
        have k6 : w5.cell? ⟨w3.heap.size, 6, none⟩ = some (.int .i64 mx) := HC5.out.cell 6 _ rfl
        have k7 : w5.cell? ⟨w3.heap.size, 7, none⟩ = some (.slice ka kn kc) := HC5.out.cell 7 _ rfl
        have HN := Lib.hid (H5.out.next (o' := o) HLT.out ((Only.refl (S := fun k => k = g) _).st g 2 (.int .i64 oi) (.inl rfl)) (by have := StR.open' (o' := oi) H5.out.st; rw [HOI.out] at this ⊢; exact this))
        have HSZ := Lib.hid (show w.heap.size < (w5.setCell ⟨g, 2, none⟩ (.int .i64 oi)).heap.size from HN.out.cell.lt)
        have HKN := Lib.hid (KAt.only HK5.out ((Only.refl (S := fun k => k = g) w5).st g 2 (.int .i64 oi) (.inl rfl)) (fun b hb => ⟨hb.2, by have := hb.1; have := HLT.out; show ¬ (b = g); omega⟩))
        have d0 : w5.cell? ⟨w.heap.size, 0, none⟩ = some (.int .i64 0) := (H5.out.cell).cell 0 _ rfl
        have d1 : w5.cell? ⟨w.heap.size, 1, none⟩ = some (.int .u64 0) := (H5.out.cell).cell 1 _ rfl
        have d2 : w5.cell? ⟨w.heap.size, 2, none⟩ = some (.int .u64 0) := (H5.out.cell).cell 2 _ rfl
        have d3 : w5.cell? ⟨w.heap.size, 3, none⟩ = some (.int .u64 0) := (H5.out.cell).cell 3 _ rfl
        have d4 : w5.cell? ⟨w.heap.size, 4, none⟩ = some (.int .u64 0) := (H5.out.cell).cell 4 _ rfl
        have d5 : w5.cell? ⟨w.heap.size, 5, none⟩ = some (.int .i64 0) := (H5.out.cell).cell 5 _ rfl
        have d6 : w5.cell? ⟨w.heap.size, 6, none⟩ = some (.int .i64 0) := (H5.out.cell).cell 6 _ rfl
        have d7 : w5.cell? ⟨w.heap.size, 7, none⟩ = some (.slice none 0 0) := (H5.out.cell).cell 7 _ rfl
        have f0 := (H5.out.cell).frozen 0; have f1 := (H5.out.cell).frozen 1; have f2 := (H5.out.cell).frozen 2; have f3 := (H5.out.cell).frozen 3
        have f4 := (H5.out.cell).frozen 4; have f5 := (H5.out.cell).frozen 5; have f6 := (H5.out.cell).frozen 6; have f7 := (H5.out.cell).frozen 7
        have hn3 := HNE.out.1; have hn4 := HNE.out.2.1; have hn5 := HNE.out.2.2.1; have hn6 := HNE.out.2.2.2
        have hn7 : w.heap.size ≠ g := by have := HLT.out; omega
        have hn8 : g ≠ w.heap.size := by have := HLT.out; omega
        go_wp2_with fail
        refine bodyPost_ret (v := nodeV (.node op f mn mx kids) (.slice ka kn kc)) (by unfold nodeV; simp [results, Tryz.results96, go_sem, d0, d1, d2, d3, d4, d5, d6, d7, hn3, hn4, hn5, hn6, hn7, hn8]; try rfl) rfl ?_
        exact node_post (r := .no 2 q) HPP.out (StR.ununit HN.out.st) HN.out.only HLT.out HSZ.out (by have := HKN.out; simpa using this) (fun _ _ h => by cases h)
theorem atom_any (g : Nat) (s : ByteArray) (p o : Nat) (x : Int) (w : World) (h : AtG w g 114 (rdr s p o 0 x)) (hp : p ≤ s.size) (hm : s.size ≤ 1000) (ho2 : o ≤ 20) (hpat : PatC s g x (p + 1)) :
    Calls Tryz.prog 96 #[.pointer (some ⟨g, 0, none⟩)] w (NPost s g o x w .atom p) := by
  by_cases h0 : ch s p < 0
  · exact atom_end g s p o x w h hp hm h0
  by_cases h1 : ch s p = 40
  · by_cases ho : o = 20
    · exact atom_deep g s p o x w h hp hm h1 ho
    · exact atom_sub g s p o x w h hp hm h1 ho ho2 hpat
  by_cases h2 : ch s p = 91
  · exact atom_class g s p o x w h hp hm h2
  by_cases h3 : ch s p = 46
  · exact atom_dot g s p o x w h hp hm h3
  by_cases h4 : ch s p = 92
  · cases hwd : wideF (ch s (p + 1)) with
    | some F => exact atom_wide g s p o x w h hp hm h4 F hwd
    | none => exact atom_esc g s p o x w h hp hm h4 hwd
  by_cases h5 : ch s p = 42 ∨ ch s p = 43
  · exact atom_star g s p o x w h hp hm (ch s p) h5 rfl
  by_cases h6 : ch s p ∈ brk
  · exact atom_brk g s p o x w h hp hm _ rfl (by omega) h1 h2 h3 h4 (by omega) (by omega) h6
  · exact atom_lit g s p o x w h hp hm _ rfl (by omega) h1 h2 h3 h4 (by omega) (by omega) h6
end Go.Proofs.YtgjcibhhffkemaaGreatDoor
/- The document's Reader: what stands between the rounds of piece. -/
set_option linter.unusedVariables false
set_option linter.unusedSimpArgs false
namespace Go.Proofs.YtgjcibhhffkemaaGreatDoor
open Go.RowKit Bt
/-- a node's cells -/
abbrev nodeC (op : Int) (f : Nat → Bool) (mn mx : Int) (kv : Value) : Array Value := #[.int .i64 op, .int .u64 ((wd f 0 : Nat) : Int), .int .u64 ((wd f 1 : Nat) : Int), .int .u64 ((wd f 2 : Nat) : Int), .int .u64 ((wd f 3 : Nat) : Int), .int .i64 mn, .int .i64 mx, kv]
/-- all blocks behind w's but one -/
def DB (w wr : World) (b3 : Nat) : Nat → Prop := fun b => Iv (w.heap.size + 1) wr.heap.size b ∧ b ≠ b3
/-- a node held in a block b3 of its own -/
structure Held (g : Nat) (w : World) (b3 : Nat) (t : Tree) (kv : Value) (wr : World) : Prop where
  node : AtG wr b3 41 (nodeL t kv).toArray
  kids : KAt (DB w wr b3) wr t kv
  cell : AtG wr w.heap.size 41 nodeZ
  only : Only (fun k => k = g) w wr
namespace Held
variable {g : Nat} {w wr w2 : World} {b3 : Nat} {t : Tree} {kv : Value}
theorem next (h : Held g w b3 t kv wr) (hg : g < w.heap.size) (hb : w.heap.size < b3) (hO : Only (fun k => k = g) wr w2) : Held g w b3 t kv w2 :=
  ⟨h.node.only hO (by show ¬ (b3 = g); omega), KAt.keep (fun b hb => hO.block b hb.1.2 (by have := hb.1.1; show ¬ (b = g); omega)) (fun b hb => ⟨⟨hb.1.1, Nat.lt_of_lt_of_le hb.1.2 hO.size⟩, hb.2⟩) _ _ h.kids,
    h.cell.only hO (by show ¬ (w.heap.size = g); omega), h.only.tr hO⟩
theorem below (h : Held g w b3 t kv wr) (hg : g < w.heap.size) (hb : w.heap.size < b3) (hO : Below wr.heap.size wr w2) : Held g w b3 t kv w2 := h.next hg hb (Only.of_below hO)
/-- one more turn: the node goes into a row of one, and a new one stands in its place -/
theorem step {op : Int} {f : Nat → Bool} {mn mx : Int} {kids : List Tree} {ka : Option Addr} {kn kc : Nat} (h : Held g w b3 (.node op f mn mx kids) (.slice ka kn kc) wr) (hg : g < w.heap.size) (hb : w.heap.size < b3) (low high : Int) :
    Held g w b3 (repT low high (.node op f mn mx kids)) (.slice (some ⟨wr.heap.size, 0, none⟩) 1 1) ((putN wr b3 4 emp low high (.slice (some ⟨wr.heap.size, 0, none⟩) 1 1)).alloc (.cells (nodeC op f mn mx (.slice ka kn kc)) 41)) := by
  have hl := h.node.lt
  have hP : AtG (putN wr b3 4 emp low high (.slice (some ⟨wr.heap.size, 0, none⟩) 1 1)) b3 41 (nodeC 4 emp low high (.slice (some ⟨wr.heap.size, 0, none⟩) 1 1)) := putN_at h.node 4 emp low high _
  have hN2 : AtG ((putN wr b3 4 emp low high (.slice (some ⟨wr.heap.size, 0, none⟩) 1 1)).alloc (.cells (nodeC op f mn mx (.slice ka kn kc)) 41)) wr.heap.size 41 (nodeC op f mn mx (.slice ka kn kc)) := by
    have := AtG.new (putN wr b3 4 emp low high (.slice (some ⟨wr.heap.size, 0, none⟩) 1 1)) 41 (nodeC op f mn mx (.slice ka kn kc))
    rw [putN_size] at this; exact this
  refine ⟨hP.alloc _, ?_, (putN_far h.cell (by omega) _ _ _ _ _).alloc _, (h.only.pN _ (.inr (by omega)) _ _ _ _ _).al _⟩
  have hsz : ((putN wr b3 4 emp low high (.slice (some ⟨wr.heap.size, 0, none⟩) 1 1)).alloc (.cells (nodeC op f mn mx (.slice ka kn kc)) 41)).heap.size = wr.heap.size + 1 := by simp [putN_size]
  have hws : w.heap.size < wr.heap.size := by have := h.cell.lt; exact this
  unfold repT
  rw [KAt]
  refine .inr ⟨by simp, by simp, wr.heap.size, 0, 1, rfl, by simp, ⟨⟨hws, by rw [hsz]; omega⟩, by omega⟩, ?_⟩
  rw [KRow]
  refine ⟨⟨.slice ka kn kc, fun i hi => ?_, ?_⟩, by rw [KRow]; trivial⟩
  · rw [Nat.zero_add]
    have hi2 : i < (nodeL (.node op f mn mx kids) (.slice ka kn kc)).length := by rw [nodeL_len]; exact hi
    rw [List.getElem?_eq_getElem hi2]
    exact hN2.cell i _ (by
      show (nodeL (.node op f mn mx kids) (.slice ka kn kc)).toArray[i]? = _
      rw [List.getElem?_toArray, List.getElem?_eq_getElem hi2])
  · refine KAt.keep (fun b hb' => ?_) (fun b hb' => ⟨⟨hb'.1.1, by rw [hsz]; have := hb'.1.2; omega⟩, hb'.2⟩) _ _ h.kids
    have h1 := putN_block wr b3 4 emp low high (.slice (some ⟨wr.heap.size, 0, none⟩) 1 1) b hb'.2 hb'.1.2
    rw [← h1]
    exact ((Below.refl (putN wr b3 4 emp low high (.slice (some ⟨wr.heap.size, 0, none⟩) 1 1)).heap.size _).alloc (Nat.le_refl _) _).block b (by rw [putN_size]; exact hb'.1.2)
end Held
end Go.Proofs.YtgjcibhhffkemaaGreatDoor
/- The document's Reader: rows of nodes that part and pattern build. -/
set_option linter.unusedVariables false
set_option linter.unusedSimpArgs false
namespace Go.Proofs.YtgjcibhhffkemaaGreatDoor
open Go.RowKit Bt
/-- a row of nodes held behind w: its slice v, its trees and their kids' slices -/
structure Kids (g : Nat) (w : World) (v : Value) (ps : List (Tree × Value)) (wr : World) : Prop where
  row : wr.ownsRow (w.heap.size + 1) 41 8 v ps.length (flatN ps)
  kids : AllK (IvB (w.heap.size + 1) wr.heap.size v) wr ps
  cell : AtG wr w.heap.size 41 nodeZ
  only : Only (fun k => k = g) w wr
namespace Kids
variable {g : Nat} {w wr w2 : World} {v : Value} {ps : List (Tree × Value)}
theorem keepAll {D D' : Nat → Prop} {w w' : World} {ps : List (Tree × Value)} (hk : ∀ b, D b → w'.heap[b]? = w.heap[b]?) (hD : ∀ b, D b → D' b) (h : AllK D w ps) : AllK D' w' ps := fun p hp => KAt.keep hk hD _ _ (h p hp)
theorem next (h : Kids g w v ps wr) (hg : g < w.heap.size) (hO : Only (fun k => k = g) wr w2) : Kids g w v ps w2 :=
  ⟨own_only h.row hO (fun k hk => by have := own_base h.row k hk; show ¬ (k = g); omega), keepAll (fun b hb => hO.block b hb.1.2 (by have := hb.1.1; show ¬ (b = g); omega)) (fun b hb => ⟨⟨hb.1.1, Nat.lt_of_lt_of_le hb.1.2 hO.size⟩, hb.2⟩) h.kids,
    h.cell.only hO (by show ¬ (w.heap.size = g); omega), h.only.tr hO⟩
theorem below (h : Kids g w v ps wr) (hg : g < w.heap.size) (hO : Below wr.heap.size wr w2) : Kids g w v ps w2 := h.next hg (Only.of_below hO)
/-- the first of them, in a new block -/
theorem start {op : Int} {f : Nat → Bool} {mn mx : Int} {kids : List Tree} {kv : Value} (hc : AtG wr w.heap.size 41 nodeZ) (ho : Only (fun k => k = g) w wr) (hK : KAt (Iv (w.heap.size + 1) wr.heap.size) wr (.node op f mn mx kids) kv) :
    Kids g w (.slice (some ⟨wr.heap.size, 0, none⟩) 1 1) [(.node op f mn mx kids, kv)] (wr.alloc (.cells (nodeC op f mn mx kv) 41)) := by
  refine ⟨own_node (AtG.new _ _ _) (by have := hc.lt; omega), ?_, hc.alloc _, ho.al _⟩
  intro p hp
  simp only [List.mem_singleton] at hp
  subst hp
  exact KAt.keep (fun b hb => ((Below.refl wr.heap.size wr).alloc (Nat.le_refl _) _).block b hb.2) (fun b hb => ⟨⟨hb.1, by have := hb.2; simp; omega⟩, fun e => by have := hb.2; have e2 : wr.heap.size = b := Option.some.inj e; omega⟩) _ _ hK
/-- one more of them: behind the call (w2), the box (w3) and append (w4) -/
theorem more {w4 : World} {v' : Value} {op : Int} {f : Nat → Bool} {mn mx : Int} {kids : List Tree} {kv : Value} (h : Kids g w v ps wr) (hg : g < w.heap.size) (hO : Only (fun k => k = g) wr w2) (hK : KAt (Iv wr.heap.size w2.heap.size) w2 (.node op f mn mx kids) kv)
    (hown : w4.ownsRow (w.heap.size + 1) 41 8 v' (ps.length + 1) (flatN ps ++ nodeL (.node op f mn mx kids) kv)) (hgr : (w2.alloc (.cells (nodeC op f mn mx kv) 41)).grownBy w4 v.ownBlock) (hbk : v'.ownBlock = v.ownBlock ∨ v'.ownBlock = some (w2.alloc (.cells (nodeC op f mn mx kv) 41)).heap.size) :
    Kids g w v' (ps ++ [(.node op f mn mx kids, kv)]) w4 := by
  have h3 := (h.next hg hO).below hg ((Below.refl w2.heap.size w2).alloc (Nat.le_refl _) (.cells (nodeC op f mn mx kv) 41))
  have hws : w.heap.size + 1 ≤ wr.heap.size := by have := h.cell.lt; omega
  have hblk : ∀ b, b < (w2.alloc (.cells (nodeC op f mn mx kv) 41)).heap.size → v.ownBlock ≠ some b → w4.heap[b]? = (w2.alloc (.cells (nodeC op f mn mx kv) 41)).heap[b]? := fun b hb hv => hgr.block b hb (fun e => hv e.symm)
  have hne : ∀ b, b < (w2.alloc (.cells (nodeC op f mn mx kv) 41)).heap.size → v.ownBlock ≠ some b → v'.ownBlock ≠ some b := fun b hb hv e => by
    rcases hbk with h1 | h1
    · rw [h1] at e; exact hv e
    · rw [h1] at e; injection e with e; omega
  have hlt : ∀ k, v.ownBlock = some k → k < wr.heap.size := fun k hk => own_lt h.row k hk
  refine ⟨by rw [List.length_append, flatN_snoc]; exact hown, ?_, h3.cell.grown hgr (fun e => by have := own_base h.row _ e; omega), h3.only.trans (Only.of_grown (S := fun k => v.ownBlock = some k) hgr (fun k hk => hk)) (fun k hk => .inr (by have := own_base h.row k hk; omega))⟩
  intro p hp
  rcases List.mem_append.1 hp with hp | hp
  · exact KAt.keep (fun b hb => hblk b hb.1.2 hb.2) (fun b hb => ⟨⟨hb.1.1, Nat.lt_of_lt_of_le hb.1.2 hgr.size⟩, hne b hb.1.2 hb.2⟩) _ _ (h3.kids p hp)
  · simp only [List.mem_singleton] at hp
    subst hp
    have hsz : (w2.alloc (.cells (nodeC op f mn mx kv) 41)).heap.size = w2.heap.size + 1 := by simp
    have hv : ∀ b, Iv wr.heap.size w2.heap.size b → v.ownBlock ≠ some b := fun b hb e => by have := hlt b e; have := hb.1; omega
    refine KAt.keep (fun b hb => ?_) (fun b hb => ⟨⟨by have := hb.1; omega, by have := hb.2; have := hgr.size; omega⟩, hne b (by have := hb.2; omega) (hv b hb)⟩) _ _ hK
    rw [hblk b (by have := hb.2; omega) (hv b hb)]
    exact ((Below.refl w2.heap.size w2).alloc (Nat.le_refl _) _).block b hb.2
end Kids
end Go.Proofs.YtgjcibhhffkemaaGreatDoor
/- The zero node, stored. -/
set_option linter.unusedVariables false
set_option linter.unusedSimpArgs false
namespace Go.Proofs.YtgjcibhhffkemaaGreatDoor
open Go.RowKit Bt
theorem putN_below {B : Nat} {w w1 : World} (h : Below B w w1) {g : Nat} (hg : B ≤ g) (op : Int) (f : Nat → Bool) (mn mx : Int) (kv : Value) : Below B w (putN w1 g op f mn mx kv) :=
  (((((((h.setCell (p := ⟨g, 0, none⟩) hg _).setCell (p := ⟨g, 1, none⟩) hg _).setCell (p := ⟨g, 2, none⟩) hg _).setCell (p := ⟨g, 3, none⟩) hg _).setCell (p := ⟨g, 4, none⟩) hg _).setCell (p := ⟨g, 5, none⟩) hg _).setCell (p := ⟨g, 6, none⟩) hg _).setCell (p := ⟨g, 7, none⟩) hg _
/-- the zero node stored over a whole block -/
def putZ (w : World) (g : Nat) : World :=
  (((((((w.setCell ⟨g, 0, none⟩ (.int .i64 0)).setCell ⟨g, 1, none⟩ (.int .u64 0)).setCell ⟨g, 2, none⟩ (.int .u64 0)).setCell ⟨g, 3, none⟩ (.int .u64 0)).setCell ⟨g, 4, none⟩ (.int .u64 0)).setCell ⟨g, 5, none⟩ (.int .i64 0)).setCell ⟨g, 6, none⟩ (.int .i64 0)).setCell ⟨g, 7, none⟩ (.slice none 0 0)
theorem putZ_eq (w : World) (g : Nat) : putZ w g = putN w g 0 emp 0 0 (.slice none 0 0) := by unfold putZ putN; rw [wd_emp, wd_emp, wd_emp, wd_emp]
theorem putZ_at {w : World} {g T : Nat} (h : AtG w g T nodeZ) : AtG (putZ w g) g T nodeZ := by
  rw [putZ_eq]
  have := putN_at h 0 emp 0 0 (.slice none 0 0)
  rw [wd_emp, wd_emp, wd_emp, wd_emp] at this
  exact this
def zeroN : Value := .agg #[.int .i64 0, .int .u64 0, .int .u64 0, .int .u64 0, .int .u64 0, .int .i64 0, .int .i64 0, .slice none 0 0]
end Go.Proofs.YtgjcibhhffkemaaGreatDoor
/- Patterns and their words, in plain words. -/
set_option linter.unusedVariables false
namespace Go.Proofs.YtgjcibhhffkemaaGreatDoor
/-- a pattern -/
inductive Pat where
  | one (s : Nat → Bool)
  | cat (l : List Pat)
  | alt (l : List Pat)
  | rep (mn mx : Nat) (p : Pat)
/-- R, t times -/
def It (R : Nat → Nat → Prop) : Nat → Nat → Nat → Prop
  | 0, j, i => i = j
  | t + 1, j, i => ∃ k, It R t j k ∧ R k i
mutual
/-- of the bytes b (n of them) those from j up to i are a word -/
def Mt (b : Nat → Nat) (n : Nat) : Pat → Nat → Nat → Prop
  | .one s, j, i => i = j + 1 ∧ j < n ∧ s (b j) = true
  | .cat l, j, i => MtC b n l j i
  | .alt l, j, i => MtA b n l j i
  | .rep mn mx p, j, i => ∃ t, mn ≤ t ∧ t ≤ mx ∧ It (Mt b n p) t j i
def MtC (b : Nat → Nat) (n : Nat) : List Pat → Nat → Nat → Prop
  | [], j, i => i = j
  | p :: l, j, i => ∃ k, Mt b n p j k ∧ MtC b n l k i
def MtA (b : Nat → Nat) (n : Nat) : List Pat → Nat → Nat → Prop
  | [], _, _ => False
  | p :: l, j, i => Mt b n p j i ∨ MtA b n l j i
end
/-- where R leads from S -/
def img (R : Nat → Nat → Prop) (S : Nat → Prop) : Nat → Prop := fun i => ∃ j, S j ∧ R j i
def imgN (R : Nat → Nat → Prop) (S : Nat → Prop) : Nat → (Nat → Prop)
  | 0 => S
  | t + 1 => img R (imgN R S t)
theorem imgN_iff (R : Nat → Nat → Prop) (S : Nat → Prop) (t : Nat) : ∀ i, imgN R S t i ↔ ∃ j, S j ∧ It R t j i := by
  induction t with
  | zero => intro i; exact ⟨fun h => ⟨i, h, rfl⟩, fun ⟨j, h, e⟩ => by cases e; exact h⟩
  | succ t ih =>
    intro i
    constructor
    · rintro ⟨k, h1, h2⟩
      obtain ⟨j, h3, h4⟩ := (ih k).1 h1
      exact ⟨j, h3, k, h4, h2⟩
    · rintro ⟨j, h3, k, h4, h2⟩
      exact ⟨k, (ih k).2 ⟨j, h3, h4⟩, h2⟩
theorem img_congr {R : Nat → Nat → Prop} {S T : Nat → Prop} (h : ∀ i, S i ↔ T i) (i : Nat) : img R S i ↔ img R T i :=
  ⟨fun ⟨j, h1, h2⟩ => ⟨j, (h j).1 h1, h2⟩, fun ⟨j, h1, h2⟩ => ⟨j, (h j).2 h1, h2⟩⟩
/-- what stays once stays for good -/
theorem imgN_stay {R : Nat → Nat → Prop} {S : Nat → Prop} {t : Nat} (h : ∀ i, img R (imgN R S t) i ↔ imgN R S t i) (d : Nat) : ∀ i, imgN R S (t + d) i ↔ imgN R S t i := by
  induction d with
  | zero => exact fun i => Iff.rfl
  | succ d ih => exact fun i => (img_congr ih i).trans (h i)
theorem rep_stop {R : Nat → Nat → Prop} {S : Nat → Prop} {t mn mx : Nat} (h : ∀ i, img R (imgN R S t) i ↔ imgN R S t i) (ht : t ≤ mx) (hm : mn ≤ mx) (i : Nat) :
    (∃ u, mn ≤ u ∧ u ≤ mx ∧ imgN R S u i) ↔ ((∃ u, mn ≤ u ∧ u < t ∧ imgN R S u i) ∨ imgN R S t i) := by
  constructor
  · rintro ⟨u, h1, h2, h3⟩
    by_cases hu : u < t
    · exact .inl ⟨u, h1, hu, h3⟩
    · obtain ⟨d, rfl⟩ := Nat.exists_eq_add_of_le (show t ≤ u by omega)
      exact .inr ((imgN_stay h d i).1 h3)
  · rintro (⟨u, h1, h2, h3⟩ | h3)
    · exact ⟨u, h1, by omega, h3⟩
    · by_cases hu : mn ≤ t
      · exact ⟨t, hu, ht, h3⟩
      · obtain ⟨d, hd⟩ := Nat.exists_eq_add_of_le (show t ≤ mn by omega)
        subst hd
        exact ⟨t + d, Nat.le_refl _, hm, (imgN_stay h d i).2 h3⟩
/-- what a pattern of repetitions leads to -/
theorem mt_rep (b : Nat → Nat) (n mn mx : Nat) (p : Pat) (S : Nat → Prop) (i : Nat) : img (Mt b n (.rep mn mx p)) S i ↔ ∃ u, mn ≤ u ∧ u ≤ mx ∧ imgN (Mt b n p) S u i := by
  constructor
  · rintro ⟨j, h1, h2⟩
    rw [Mt] at h2
    obtain ⟨t, h3, h4, h5⟩ := h2
    exact ⟨t, h3, h4, (imgN_iff _ _ _ _).2 ⟨j, h1, h5⟩⟩
  · rintro ⟨u, h1, h2, h3⟩
    obtain ⟨j, h4, h5⟩ := (imgN_iff _ _ _ _).1 h3
    exact ⟨j, h4, by rw [Mt]; exact ⟨u, h1, h2, h5⟩⟩
theorem mt_cat_nil (b : Nat → Nat) (n : Nat) (S : Nat → Prop) (i : Nat) : img (MtC b n []) S i ↔ S i := by
  constructor
  · rintro ⟨j, h1, h2⟩
    rw [MtC] at h2
    subst h2; exact h1
  · exact fun h => ⟨i, h, by rw [MtC]⟩
theorem mt_cat_cons (b : Nat → Nat) (n : Nat) (p : Pat) (l : List Pat) (S : Nat → Prop) (i : Nat) : img (MtC b n (p :: l)) S i ↔ img (MtC b n l) (img (Mt b n p) S) i := by
  constructor
  · rintro ⟨j, h1, h2⟩
    rw [MtC] at h2
    obtain ⟨k, h3, h4⟩ := h2
    exact ⟨k, ⟨j, h1, h3⟩, h4⟩
  · rintro ⟨k, ⟨j, h1, h3⟩, h4⟩
    exact ⟨j, h1, by rw [MtC]; exact ⟨k, h3, h4⟩⟩
end Go.Proofs.YtgjcibhhffkemaaGreatDoor
/- The grammar tells one thing of each text; what it tells is a pattern. -/
set_option linter.unusedVariables false
namespace Go.Proofs.YtgjcibhhffkemaaGreatDoor
theorem P.det {s : ByteArray} {q : Q} {o p : Nat} {r : Re Tree} (h : P s q o p r) : ∀ r', P s q o p r' → r = r' := by
  induction h with
  | plain h => intro r' h'; cases h' with | plain => rfl | deep h1 => exact absurd h1 h | sub h1 => exact absurd h1 h
  | deep h h1 => intro r' h'; cases h' with | plain h2 => exact absurd h h2 | deep => rfl | sub h2 h3 => exact absurd h1 h3
  | sub h h1 h2 ih => intro r' h'; cases h' with | plain h3 => exact absurd h h3 | deep h3 h4 => exact absurd h4 h1 | sub h3 h4 h5 => rw [ih _ h5]
  | pieceNo h ih => intro r' h'; cases h' with | pieceNo h1 => exact ih _ h1 | pieceOk h1 h2 => cases ih _ h1
  | pieceOk h h1 ih ih1 => intro r' h'; cases h' with | pieceNo h2 => cases ih _ h2 | pieceOk h2 h3 => cases ih _ h2; exact ih1 _ h3
  | opt h h1 ih => intro r' h'; cases h' with | opt h2 h3 => exact ih _ h3 | times h2 => omega | timesNo h2 => omega | pieceEnd h2 => exact absurd h h2
  | times h h1 h2 ih => intro r' h'; cases h' with | opt h3 => omega | times h3 h4 h5 => rw [h1] at h4; cases h4; exact ih _ h5 | timesNo h3 h4 => rw [h1] at h4; cases h4 | pieceEnd h3 h4 => exact absurd h h4
  | timesNo h h1 => intro r' h'; cases h' with | opt h3 => omega | times h3 h4 h5 => rw [h1] at h4; cases h4 | timesNo h3 h4 => rw [h1] at h4; cases h4; rfl | pieceEnd h3 h4 => exact absurd h h4
  | pieceEnd h h1 => intro r' h'; cases h' with | opt h3 => exact absurd h3 h | times h3 => exact absurd h3 h1 | timesNo h3 => exact absurd h3 h1 | pieceEnd => rfl
  | partNo h ih => intro r' h'; cases h' with | partNo h1 => exact ih _ h1 | partOk h1 h2 => cases ih _ h1
  | partOk h h1 ih ih1 => intro r' h'; cases h' with | partNo h2 => cases ih _ h2 | partOk h2 h3 => cases ih _ h2; exact ih1 _ h3
  | partMore h h1 h2 ih ih1 => intro r' h'; cases h' with | partMore h3 h4 h5 => cases ih _ h4; exact ih1 _ h5 | partBad h3 h4 => cases ih _ h4 | partEnd h3 => exact absurd h h3
  | partBad h h1 ih => intro r' h'; cases h' with | partMore h3 h4 h5 => cases ih _ h4 | partBad h3 h4 => exact ih _ h4 | partEnd h3 => exact absurd h h3
  | partEnd h => intro r' h'; cases h' with | partMore h3 => exact absurd h3 h | partBad h3 => exact absurd h3 h | partEnd => rfl
  | patNo h ih => intro r' h'; cases h' with | patNo h1 => exact ih _ h1 | patOk h1 h2 => cases ih _ h1
  | patOk h h1 ih ih1 => intro r' h'; cases h' with | patNo h2 => cases ih _ h2 | patOk h2 h3 => cases ih _ h2; exact ih1 _ h3
  | patMore h h1 h2 ih ih1 => intro r' h'; cases h' with | patMore h3 h4 h5 => cases ih _ h4; exact ih1 _ h5 | patBad h3 h4 => cases ih _ h4 | patEnd h3 => exact absurd h h3
  | patBad h h1 ih => intro r' h'; cases h' with | patMore h3 h4 h5 => cases ih _ h4 | patBad h3 h4 => exact ih _ h4 | patEnd h3 => exact absurd h h3
  | patEnd h => intro r' h'; cases h' with | patMore h3 => exact absurd h3 h | patBad h3 => exact absurd h3 h | patEnd => rfl
mutual
/-- a pattern as a tree -/
def Pat.tree : Pat → Tree
  | .one f => .node 1 f 0 0 []
  | .cat l => catT (Pat.trees l)
  | .alt l => altT (Pat.trees l)
  | .rep mn mx p => repT (mn : Int) (mx : Int) (Pat.tree p)
def Pat.trees : List Pat → List Tree
  | [] => []
  | p :: l => Pat.tree p :: Pat.trees l
end
theorem Pat.trees_map (l : List Pat) : Pat.trees l = l.map Pat.tree := by
  induction l with
  | nil => rfl
  | cons p l ih => rw [Pat.trees, ih]; rfl
/-- a proof for all patterns -/
theorem Pat.ind {M : Pat → Prop} (h1 : ∀ f, M (.one f)) (h2 : ∀ l, (∀ p ∈ l, M p) → M (.cat l)) (h3 : ∀ l, (∀ p ∈ l, M p) → M (.alt l)) (h4 : ∀ mn mx p, M p → M (.rep mn mx p)) : ∀ p, M p
  | .one f => h1 f
  | .cat l => h2 l fun p hp => Pat.ind h1 h2 h3 h4 p
  | .alt l => h3 l fun p hp => Pat.ind h1 h2 h3 h4 p
  | .rep mn mx p => h4 mn mx p (Pat.ind h1 h2 h3 h4 p)
/-- a pattern that a text may be -/
inductive Wf : Pat → Prop where
  | one (f) : Wf (.one f)
  | cat (l) (h : ∀ p ∈ l, Wf p) (hl : 2 ≤ l.length) (hm : l.length ≤ 1000) : Wf (.cat l)
  | alt (l) (h : ∀ p ∈ l, Wf p) (hl : 2 ≤ l.length) (hm : l.length ≤ 1000) : Wf (.alt l)
  | rep (mn mx p) (h : Wf p) (h1 : mn ≤ mx) (h2 : 1 ≤ mx) (h3 : mx ≤ 32) : Wf (.rep mn mx p)
/-- a tree that a text may be -/
def Good (t : Tree) : Prop := ∃ p, Wf p ∧ t = p.tree
theorem good_one (f : Nat → Bool) : Good (one f) := ⟨.one f, .one f, rfl⟩
theorem good_rep {t : Tree} (h : Good t) {mn mx : Int} (h0 : 0 ≤ mn) (h1 : mn ≤ mx) (h2 : 1 ≤ mx) (h3 : mx ≤ 32) : Good (repT mn mx t) := by
  obtain ⟨p, hp, rfl⟩ := h
  exact ⟨.rep mn.toNat mx.toNat p, .rep _ _ _ hp (by omega) (by omega) (by omega), by rw [Pat.tree, Int.toNat_of_nonneg h0, Int.toNat_of_nonneg (by omega)]⟩
theorem goods {l : List Tree} (h : ∀ t ∈ l, Good t) : ∃ ps : List Pat, (∀ p ∈ ps, Wf p) ∧ l = Pat.trees ps := by
  induction l with
  | nil => exact ⟨[], by simp, rfl⟩
  | cons t l ih =>
    obtain ⟨p, hp, ht⟩ := h t (by simp)
    obtain ⟨ps, hps, hl⟩ := ih fun u hu => h u (by simp [hu])
    exact ⟨p :: ps, by intro q hq; rcases List.mem_cons.1 hq with rfl | hq; exact hp; exact hps q hq, by rw [Pat.trees, ht, hl]⟩
theorem trees_len (ps : List Pat) : (Pat.trees ps).length = ps.length := by rw [Pat.trees_map]; simp
theorem good_many {l : List Tree} (h : ∀ t ∈ l, Good t) (hn : l ≠ []) (hm : l.length ≤ 1000) : Good (many 2 l) ∧ Good (many 3 l) := by
  match l, hn with
  | [t], _ => exact ⟨h t (by simp), h t (by simp)⟩
  | a :: b :: r, _ =>
    obtain ⟨ps, hps, hl⟩ := goods h
    have hlen : 2 ≤ ps.length := by rw [← trees_len, ← hl]; simp
    have hlen2 : ps.length ≤ 1000 := by rw [← trees_len, ← hl]; exact hm
    exact ⟨⟨.cat ps, .cat ps hps hlen hlen2, by rw [Pat.tree, ← hl]; rfl⟩, ⟨.alt ps, .alt ps hps hlen hlen2, by rw [Pat.tree, ← hl]; rfl⟩⟩
/-- what has been gathered so far -/
def Q.good : Q → Nat → Prop
  | .pieceL t, _ => Good t
  | .partL l, p => (∀ t ∈ l, Good t) ∧ l ≠ [] ∧ l.length ≤ p
  | .patL l, p => (∀ t ∈ l, Good t) ∧ l ≠ [] ∧ l.length ≤ p
  | _, _ => True
theorem re_good {r : Re (Nat → Bool)} {t : Tree} {q : Nat} (h : r.map one = .ok t q) : Good t := by
  cases r with
  | ok f q' => injection h with h; subst h; exact good_one _
  | no c x => cases h
theorem atomF_good {s : ByteArray} {p : Nat} {t : Tree} {q : Nat} (h : atomF s p = .ok t q) : Good t := by
  unfold atomF at h
  split at h
  · cases h
  split at h
  · exact re_good h
  split at h
  · injection h with h; subst h; exact good_one _
  split at h
  · split at h
    · injection h with h; subst h; exact good_one _
    · cases he : escF s (p + 1) with
      | ok a b => rw [he] at h; injection h with h; subst h; exact good_one _
      | no c x => rw [he] at h; cases h
  split at h
  · cases h
  split at h
  · cases h
  · injection h with h; subst h; exact good_one _
theorem P.good {s : ByteArray} (hm : s.size ≤ 1000) {q : Q} {o p : Nat} {r : Re Tree} (h : P s q o p r) : p ≤ s.size → q.good p → ∀ t q', r = .ok t q' → Good t := by
  induction h with
  | plain h => intro _ _ t q' e; exact atomF_good e
  | deep => intro _ _ t q' e; cases e
  | @sub o p r h h1 h2 ih =>
    intro hp _ t q' e
    cases r with
    | no c x => cases e
    | ok t2 q2 =>
      have := ih (ch_ge (by omega)) trivial t2 q2 rfl
      rw [closeF] at e
      split at e
      · injection e with e; subst e; exact this
      · cases e
  | pieceNo h ih => intro _ _ t q' e; cases e
  | @pieceOk o p t q r h h1 ih ih1 => intro hp _ t' q' e; exact ih1 (P.in h hp).2 (ih hp trivial t q rfl) t' q' e
  | @opt o p t r h h1 ih => intro hp hg t' q' e; exact ih (ch_ge (by omega)) (good_rep hg (by omega) (by omega) (by omega) (by omega)) t' q' e
  | @times o p t m n q r h h1 h2 ih =>
    intro hp hg t' q' e
    obtain ⟨h3, h4⟩ := timesF_in s (p + 1) (ch_ge (by omega))
    obtain ⟨a1, a2, a3, a4⟩ := h4 m n q h1
    rw [h1] at h3
    exact ih h3.2 (good_rep hg a1 a4 a2 a3) t' q' e
  | timesNo => intro _ _ t q' e; cases e
  | pieceEnd => intro _ hg t q' e; injection e with e; subst e; exact hg
  | partNo => intro _ _ t q' e; cases e
  | @partOk o p t q r h h1 ih ih1 =>
    intro hp _ t' q' e
    have hin := P.in h hp
    have hin1 := hin.1
    simp [Q.far] at hin1
    exact ih1 hin.2 ⟨by intro u hu; rw [show u = t from by simpa using hu]; exact ih hp trivial t q rfl, by simp, by simp; omega⟩ t' q' e
  | @partMore o p l t q r h h1 h2 ih ih1 =>
    intro hp hg t' q' e
    have hin := P.in h1 hp
    have hin1 := hin.1
    simp [Q.far] at hin1
    refine ih1 hin.2 ⟨fun u hu => ?_, by simp, by have := hg.2.2; simp; omega⟩ t' q' e
    rcases List.mem_append.1 hu with hu | hu
    · exact hg.1 u hu
    · rw [show u = t from by simpa using hu]; exact ih hp trivial t q rfl
  | partBad => intro _ _ t q' e; cases e
  | partEnd => intro hp hg t q' e; injection e with e; subst e; exact (good_many hg.1 hg.2.1 (by have := hg.2.2; omega)).1
  | patNo => intro _ _ t q' e; cases e
  | @patOk o p t q r h h1 ih ih1 =>
    intro hp _ t' q' e
    have hin := P.in h hp
    have hin1 := hin.1
    simp [Q.far] at hin1
    exact ih1 hin.2 ⟨by intro u hu; rw [show u = t from by simpa using hu]; exact ih hp trivial t q rfl, by simp, by simp; omega⟩ t' q' e
  | @patMore o p l t q r h h1 h2 ih ih1 =>
    intro hp hg t' q' e
    have hin := P.in h1 (ch_ge (s := s) (p := p) (by omega))
    have hin1 := hin.1
    simp [Q.far] at hin1
    refine ih1 hin.2 ⟨fun u hu => ?_, by simp, by have := hg.2.2; simp; omega⟩ t' q' e
    rcases List.mem_append.1 hu with hu | hu
    · exact hg.1 u hu
    · rw [show u = t from by simpa using hu]; exact ih (ch_ge (s := s) (p := p) (by omega)) trivial t q rfl
  | patBad => intro _ _ t q' e; cases e
  | patEnd => intro hp hg t q' e; injection e with e; subst e; exact (good_many hg.1 hg.2.1 (by have := hg.2.2; omega)).2
end Go.Proofs.YtgjcibhhffkemaaGreatDoor
/- The lengths of a pattern's words, in plain words. -/
set_option linter.unusedVariables false
namespace Go.Proofs.YtgjcibhhffkemaaGreatDoor
theorem mt_alt_cons (b : Nat → Nat) (n : Nat) (p : Pat) (l : List Pat) (S : Nat → Prop) (i : Nat) : img (MtA b n (p :: l)) S i ↔ img (Mt b n p) S i ∨ img (MtA b n l) S i := by
  constructor
  · rintro ⟨j, h1, h2⟩
    rw [MtA] at h2
    exact h2.imp (fun h => ⟨j, h1, h⟩) (fun h => ⟨j, h1, h⟩)
  · rintro (⟨j, h1, h2⟩ | ⟨j, h1, h2⟩)
    · exact ⟨j, h1, by rw [MtA]; exact .inl h2⟩
    · exact ⟨j, h1, by rw [MtA]; exact .inr h2⟩
mutual
/-- how many bytes a word has at least, at most (up to 1000) -/
def leastP : Pat → Nat
  | .one _ => 1
  | .cat l => min (leastC l) 1000
  | .alt l => min (leastA l) 1000
  | .rep mn _ p => min (mn * leastP p) 1000
def leastC : List Pat → Nat
  | [] => 0
  | p :: l => leastP p + leastC l
def leastA : List Pat → Nat
  | [] => 1000
  | p :: l => min (leastP p) (leastA l)
end
mutual
def mostP : Pat → Nat
  | .one _ => 1
  | .cat l => min (mostC l) 1000
  | .alt l => min (mostA l) 1000
  | .rep _ mx p => min (mx * mostP p) 1000
def mostC : List Pat → Nat
  | [] => 0
  | p :: l => mostP p + mostC l
def mostA : List Pat → Nat
  | [] => 0
  | p :: l => max (mostP p) (mostA l)
end
mutual
/-- all bytes of all sets -/
def anyP : Pat → Nat → Bool
  | .one s => s
  | .cat l => anyL l
  | .alt l => anyL l
  | .rep _ _ p => anyP p
def anyL : List Pat → Nat → Bool
  | [] => fun _ => false
  | p :: l => fun c => anyP p c || anyL l c
end
theorem it_len {R : Nat → Nat → Prop} {lo hi : Nat} (h : ∀ j i, R j i → j ≤ i ∧ lo ≤ i - j ∧ min (i - j) 1000 ≤ hi) (t : Nat) : ∀ j i, It R t j i → j ≤ i ∧ t * lo ≤ i - j ∧ min (i - j) 1000 ≤ t * hi := by
  induction t with
  | zero => intro j i e; cases e; simp
  | succ t ih =>
    rintro j i ⟨k, h1, h2⟩
    have a := ih j k h1
    have c := h k i h2
    rw [Nat.succ_mul, Nat.succ_mul]
    omega
theorem mt_len (b : Nat → Nat) (n : Nat) (p : Pat) : ∀ j i, Mt b n p j i → j ≤ i ∧ leastP p ≤ i - j ∧ min (i - j) 1000 ≤ mostP p := by
  refine Pat.rec (motive_1 := fun p => ∀ j i, Mt b n p j i → j ≤ i ∧ leastP p ≤ i - j ∧ min (i - j) 1000 ≤ mostP p)
    (motive_2 := fun l => (∀ j i, MtC b n l j i → j ≤ i ∧ leastC l ≤ i - j ∧ min (i - j) 1000 ≤ mostC l) ∧ (∀ j i, MtA b n l j i → j ≤ i ∧ leastA l ≤ i - j ∧ min (i - j) 1000 ≤ mostA l)) ?_ ?_ ?_ ?_ ?_ ?_ p
  · intro s j i h
    rw [Mt] at h
    obtain ⟨rfl, _, _⟩ := h
    rw [leastP, mostP]; omega
  · intro l ih j i h
    rw [Mt] at h
    have := ih.1 j i h
    rw [leastP, mostP]; omega
  · intro l ih j i h
    rw [Mt] at h
    have := ih.2 j i h
    rw [leastP, mostP]; omega
  · intro mn mx p ih j i h
    rw [Mt] at h
    obtain ⟨t, h1, h2, h3⟩ := h
    have h4 := it_len ih t j i h3
    rw [leastP, mostP]
    have h5 := Nat.mul_le_mul_right (leastP p) h1
    have h6 := Nat.mul_le_mul_right (mostP p) h2
    omega
  · refine ⟨fun j i h => ?_, fun j i h => ?_⟩
    · rw [MtC] at h; subst h; rw [leastC, mostC]; omega
    · rw [MtA] at h; exact h.elim
  · intro p l ih ih2
    refine ⟨fun j i h => ?_, fun j i h => ?_⟩
    · rw [MtC] at h
      obtain ⟨k, h1, h2⟩ := h
      have a := ih j k h1
      have c := ih2.1 k i h2
      rw [leastC, mostC]; omega
    · rw [MtA] at h
      rw [leastA, mostA]
      rcases h with h | h
      · have := ih j i h; omega
      · have := ih2.2 j i h; omega
theorem it_any {R : Nat → Nat → Prop} {P : Nat → Prop} (hR : ∀ j i, R j i → j ≤ i) (h : ∀ j i, R j i → ∀ c, j ≤ c → c < i → P c) (t : Nat) : ∀ j i, It R t j i → j ≤ i ∧ ∀ c, j ≤ c → c < i → P c := by
  induction t with
  | zero => intro j i e; cases e; exact ⟨Nat.le_refl _, fun c h1 h2 => by omega⟩
  | succ t ih =>
    rintro j i ⟨k, h1, h2⟩
    have a := ih j k h1
    have d := hR k i h2
    refine ⟨by omega, fun c h3 h4 => ?_⟩
    by_cases hc : c < k
    · exact a.2 c h3 hc
    · exact h k i h2 c (by omega) h4
/-- all bytes of a word are of its sets -/
theorem mt_any (b : Nat → Nat) (n : Nat) (p : Pat) : ∀ j i, Mt b n p j i → ∀ c, j ≤ c → c < i → anyP p (b c) = true := by
  refine Pat.rec (motive_1 := fun p => ∀ j i, Mt b n p j i → ∀ c, j ≤ c → c < i → anyP p (b c) = true)
    (motive_2 := fun l => (∀ j i, MtC b n l j i → ∀ c, j ≤ c → c < i → anyL l (b c) = true) ∧ (∀ j i, MtA b n l j i → ∀ c, j ≤ c → c < i → anyL l (b c) = true)) ?_ ?_ ?_ ?_ ?_ ?_ p
  · intro s j i h c h1 h2
    rw [Mt] at h
    obtain ⟨rfl, _, h3⟩ := h
    obtain rfl : c = j := by omega
    rw [anyP]; exact h3
  · intro l ih j i h c h1 h2
    rw [Mt] at h
    rw [anyP]; exact ih.1 j i h c h1 h2
  · intro l ih j i h c h1 h2
    rw [Mt] at h
    rw [anyP]; exact ih.2 j i h c h1 h2
  · intro mn mx p ih j i h c h1 h2
    rw [Mt] at h
    obtain ⟨t, _, _, h3⟩ := h
    rw [anyP]
    exact (it_any (fun j i h => (mt_len b n p j i h).1) ih t j i h3).2 c h1 h2
  · refine ⟨fun j i h c h1 h2 => ?_, fun j i h => ?_⟩
    · rw [MtC] at h; omega
    · rw [MtA] at h; exact h.elim
  · intro p l ih ih2
    refine ⟨fun j i h c h1 h2 => ?_, fun j i h c h1 h2 => ?_⟩
    · rw [MtC] at h
      obtain ⟨k, h3, h4⟩ := h
      rw [anyL]; dsimp only
      by_cases hc : c < k
      · rw [ih j k h3 c h1 hc]; rfl
      · rw [ih2.1 k i h4 c (by omega) h2]; simp
    · rw [MtA] at h
      rw [anyL]; dsimp only
      rcases h with h | h
      · rw [ih j i h c h1 h2]; rfl
      · rw [ih2.2 j i h c h1 h2]; simp
end Go.Proofs.YtgjcibhhffkemaaGreatDoor
/- Trees in memory: a node's kids one by one. -/
set_option linter.unusedVariables false
set_option linter.unusedSimpArgs false
namespace Go.Proofs.YtgjcibhhffkemaaGreatDoor
open Go.RowKit Bt
/-- a tree's kids, wherever they stand -/
def NAt (w : World) (t : Tree) (kv : Value) : Prop := KAt (fun _ => True) w t kv
mutual
theorem KAt.lt {D : Nat → Prop} {w : World} : ∀ (t : Tree) (kv : Value), KAt D w t kv → KAt (fun b => D b ∧ b < w.heap.size) w t kv
  | .node op f mn mx kids, kv, h => by
    rw [KAt] at h ⊢
    rcases h with h | ⟨h1, hl, b, off, cap, h2, h3, h4, h5⟩
    · exact .inl h
    · have hb : b < w.heap.size := by
        match kids, h1 with
        | t :: l, _ =>
          rw [KRow] at h5
          obtain ⟨⟨kv', h6, _⟩, _⟩ := h5
          have h7 := h6 0 (by omega)
          rw [List.getElem?_eq_getElem (by rw [nodeL_len]; omega)] at h7
          exact World.block_lt_of_cell? w _ h7
      exact .inr ⟨h1, hl, b, off, cap, h2, h3, ⟨h4, hb⟩, KRow.lt kids b off h5⟩
theorem KRow.lt {D : Nat → Prop} {w : World} : ∀ (l : List Tree) (b off : Nat), KRow D w l b off → KRow (fun b => D b ∧ b < w.heap.size) w l b off
  | [], b, off, h => by rw [KRow]; trivial
  | t :: l, b, off, h => by
    rw [KRow] at h ⊢
    obtain ⟨⟨kv, h1, h2⟩, h3⟩ := h
    exact ⟨⟨kv, h1, KAt.lt t kv h2⟩, KRow.lt l b (off + 8) h3⟩
end
theorem NAt.below {w w' : World} {t : Tree} {kv : Value} (h : NAt w t kv) (hb : Below w.heap.size w w') : NAt w' t kv :=
  KAt.keep (fun b hb' => hb.block b hb'.2) (fun _ _ => trivial) t kv (KAt.lt t kv h)
theorem NAt.of {D : Nat → Prop} {w : World} {t : Tree} {kv : Value} (h : KAt D w t kv) : NAt w t kv := KAt.mono h fun _ _ => trivial
theorem NAt.alloc {w : World} {t : Tree} {kv : Value} (h : NAt w t kv) (o : Obj) : NAt (w.alloc o) t kv := h.below ((Below.refl _ _).alloc (Nat.le_refl _) o)
/-- one node's eight cells, from an address on -/
structure Cell8 (w : World) (b o : Nat) (op : Int) (f : Nat → Bool) (mn mx : Int) (kv : Value) : Prop where
  c0 : w.cell? ⟨b, o, none⟩ = some (.int .i64 op)
  c1 : w.cell? ⟨b, o + 1, none⟩ = some (.int .u64 ((wd f 0 : Nat) : Int))
  c2 : w.cell? ⟨b, o + 2, none⟩ = some (.int .u64 ((wd f 1 : Nat) : Int))
  c3 : w.cell? ⟨b, o + 3, none⟩ = some (.int .u64 ((wd f 2 : Nat) : Int))
  c4 : w.cell? ⟨b, o + 4, none⟩ = some (.int .u64 ((wd f 3 : Nat) : Int))
  c5 : w.cell? ⟨b, o + 5, none⟩ = some (.int .i64 mn)
  c6 : w.cell? ⟨b, o + 6, none⟩ = some (.int .i64 mx)
  c7 : w.cell? ⟨b, o + 7, none⟩ = some kv
/-- the kid at place j -/
theorem kid_at {w : World} {op : Int} {f : Nat → Bool} {mn mx : Int} {kids : List Tree} {kv : Value} (h : NAt w (.node op f mn mx kids) kv) {j : Nat} {t : Tree} (hj : kids[j]? = some t) :
    ∃ b off cap, kv = .slice (some ⟨b, off, none⟩) kids.length cap ∧ kids.length ≤ cap ∧ ∃ op' f' mn' mx' kids' ka kc, t = .node op' f' mn' mx' kids' ∧ Cell8 w b (off + j * 8) op' f' mn' mx' (.slice ka kids'.length kc) ∧ NAt w t (.slice ka kids'.length kc) := by
  unfold NAt at h
  rw [KAt] at h
  rcases h with ⟨h, _⟩ | ⟨h1, hl, b, off, cap, h2, h3, h4, h5⟩
  · rw [h] at hj; simp at hj
  obtain ⟨kv', h6, h7⟩ := KRow.get _ _ _ _ _ h5 hj
  obtain ⟨op', f', mn', mx', kids'⟩ := t
  obtain ⟨ka, kc, rfl⟩ := KAt.slice h7
  refine ⟨b, off, cap, h2, h3, op', f', mn', mx', kids', ka, kc, rfl, ?_, h7⟩
  have hm : 8 * j = j * 8 := Nat.mul_comm _ _
  rw [hm] at h6
  exact ⟨h6 0 (by omega), h6 1 (by omega), h6 2 (by omega), h6 3 (by omega), h6 4 (by omega), h6 5 (by omega), h6 6 (by omega), h6 7 (by omega)⟩
theorem trees_get {l : List Pat} {k : Nat} (h : k < l.length) : (Pat.trees l)[k]? = some (l[k].tree) := by rw [Pat.trees_map, List.getElem?_map, List.getElem?_eq_getElem h]; rfl
theorem leastC_snoc (l : List Pat) (k : Nat) (h : k < l.length) : leastC (l.take (k + 1)) = leastC (l.take k) + leastP l[k] := by
  have key : ∀ (a b : List Pat), leastC (a ++ b) = leastC a + leastC b := fun a b => by
    induction a with
    | nil => simp [leastC]
    | cons p a ih => rw [List.cons_append, leastC, leastC, ih]; omega
  rw [List.take_succ_eq_append_getElem h, key, leastC, leastC]; omega
theorem mostC_snoc (l : List Pat) (k : Nat) (h : k < l.length) : mostC (l.take (k + 1)) = mostC (l.take k) + mostP l[k] := by
  have key : ∀ (a b : List Pat), mostC (a ++ b) = mostC a + mostC b := fun a b => by
    induction a with
    | nil => simp [mostC]
    | cons p a ih => rw [List.cons_append, mostC, mostC, ih]; omega
  rw [List.take_succ_eq_append_getElem h, key, mostC, mostC]; omega
theorem leastP_le (p : Pat) : leastP p ≤ 1000 := by cases p <;> rw [leastP] <;> omega
theorem mostP_le (p : Pat) : mostP p ≤ 1000 := by cases p <;> rw [mostP] <;> omega
theorem leastC_le (l : List Pat) : leastC l ≤ l.length * 1000 := by
  induction l with
  | nil => simp [leastC]
  | cons p l ih => rw [leastC, List.length_cons]; have := leastP_le p; omega
theorem mostC_le (l : List Pat) : mostC l ≤ l.length * 1000 := by
  induction l with
  | nil => simp [mostC]
  | cons p l ih => rw [mostC, List.length_cons]; have := mostP_le p; omega
theorem leastA_le (l : List Pat) : leastA l ≤ 1000 := by
  induction l with
  | nil => simp [leastA]
  | cons p l ih => rw [leastA]; omega
theorem mostA_le (l : List Pat) : mostA l ≤ 1000 := by
  induction l with
  | nil => simp [mostA]
  | cons p l ih => rw [mostA]; have := mostP_le p; omega
theorem leastA_snoc (l : List Pat) (k : Nat) (h : k < l.length) : leastA (l.take (k + 1)) = min (leastA (l.take k)) (leastP l[k]) := by
  have key : ∀ (a b : List Pat), leastA (a ++ b) = min (leastA a) (leastA b) := fun a b => by
    induction a with
    | nil => have := leastA_le b; simp [leastA]; omega
    | cons p a ih => rw [List.cons_append, leastA, leastA, ih]; omega
  rw [List.take_succ_eq_append_getElem h, key, leastA, leastA]; have := leastP_le l[k]; omega
theorem mostA_snoc (l : List Pat) (k : Nat) (h : k < l.length) : mostA (l.take (k + 1)) = max (mostA (l.take k)) (mostP l[k]) := by
  have key : ∀ (a b : List Pat), mostA (a ++ b) = max (mostA a) (mostA b) := fun a b => by
    induction a with
    | nil => simp [mostA]
    | cons p a ih => rw [List.cons_append, mostA, mostA, ih]; omega
  rw [List.take_succ_eq_append_getElem h, key, mostA, mostA]; omega
end Go.Proofs.YtgjcibhhffkemaaGreatDoor
/- The walks of Any, the program's and the document's. -/
set_option linter.unusedVariables false
set_option linter.unusedSimpArgs false
namespace Go.Proofs.YtgjcibhhffkemaaGreatDoor
open Go.RowKit Bt
theorem Cell8.below {w w' : World} {b o : Nat} {op : Int} {f : Nat → Bool} {mn mx : Int} {kv : Value} (h : Cell8 w b o op f mn mx kv) (hb : Below w.heap.size w w') : Cell8 w' b o op f mn mx kv := by
  have hl : b < w.heap.size := World.block_lt_of_cell? w _ h.c0
  have e : ∀ i, w'.cell? ⟨b, i, none⟩ = w.cell? ⟨b, i, none⟩ := fun i => hb.cell (p := ⟨b, i, none⟩) hl
  exact ⟨(e _).trans h.c0, (e _).trans h.c1, (e _).trans h.c2, (e _).trans h.c3, (e _).trans h.c4, (e _).trans h.c5, (e _).trans h.c6, (e _).trans h.c7⟩
theorem anyL_snoc (l : List Pat) (k : Nat) (h : k < l.length) (x : Nat) : anyL (l.take (k + 1)) x = (anyL (l.take k) x || anyP l[k] x) := by
  have key : ∀ (a b : List Pat), anyL (a ++ b) x = (anyL a x || anyL b x) := fun a b => by
    induction a with
    | nil => simp [anyL]
    | cons p a ih => rw [List.cons_append, anyL, anyL]; show (anyP p x || anyL (a ++ b) x) = ((anyP p x || anyL a x) || anyL b x); rw [ih, Bool.or_assoc]
  rw [List.take_succ_eq_append_getElem h, key]; simp [anyL]
/-- what lang.Any does with a pattern -/
def pAnyC (p : Pat) : Prop := ∀ (w : World) (a : Option Addr) (n c : Nat), NAt w p.tree (.slice a n c) → Calls Tryz.prog 19 #[nodeV p.tree (.slice a n c)] w fun e w' => e = .returned (setOf (anyP p)) ∧ Below w.heap.size w w'
set_option maxRecDepth 100000 in
set_option maxHeartbeats 1600000 in
theorem pAny_node (op : Int) (f : Nat → Bool) (mn mx : Int) (ps : List Pat) (hl : ps.length ≤ 1000) (ih : ∀ p ∈ ps, pAnyC p) (w : World) (a : Option Addr) (c : Nat) (h : NAt w (.node op f mn mx (Pat.trees ps)) (.slice a ps.length c)) :
    Calls Tryz.prog 19 #[.agg #[.int .i64 op, .int .u64 ((wd f 0 : Nat) : Int), .int .u64 ((wd f 1 : Nat) : Int), .int .u64 ((wd f 2 : Nat) : Int), .int .u64 ((wd f 3 : Nat) : Int), .int .i64 mn, .int .i64 mx, .slice a ps.length c]] w fun e w' => e = .returned (setOf fun x => f x || anyL ps x) ∧ Below w.heap.size w w' := by
  obtain ⟨w0, hw0⟩ : ∃ w0 : World, w0 = ((w.alloc (.cells (nodeC op f mn mx (.slice a ps.length c)) 41)).alloc (.cells (setC 0 0 0 0) 38)).alloc (.cells (cellsOf f) 38) := ⟨_, rfl⟩
  have H := Lib.hid h
  have HA : Hid (AtG w0 w.heap.size 41 (nodeC op f mn mx (.slice a ps.length c))) := Lib.hid (by rw [hw0]; exact ((AtG.new _ _ _).alloc _).alloc _)
  have HR : Hid (AtG w0 (w.heap.size + 1) 38 (setC 0 0 0 0)) := Lib.hid (by
    rw [hw0]
    have := (AtG.new (w.alloc (.cells (nodeC op f mn mx (.slice a ps.length c)) 41)) 38 (setC 0 0 0 0)).alloc (.cells (cellsOf f) 38)
    simpa using this)
  have HS : Hid (AtG w0 (w.heap.size + 1 + 1) 38 (cellsOf fun x => f x || anyL (ps.take 0) x)) := Lib.hid (by
    rw [hw0, show (cellsOf fun x => f x || anyL (ps.take 0) x) = cellsOf f from cellsOf_ext fun x _ => by simp [anyL]]
    have := AtG.new ((w.alloc (.cells (nodeC op f mn mx (.slice a ps.length c)) 41)).alloc (.cells (setC 0 0 0 0) 38)) 38 (cellsOf f)
    simpa using this)
  have HB0 : Hid (Below w.heap.size w w0) := Lib.hid (by rw [hw0]; go_grown)
  have hlI : (ps.length : Int) ≤ 1000 := by omega
  have hw0' : ((w.alloc (.cells #[.int .i64 op, .int .u64 ((wd f 0 : Nat) : Int), .int .u64 ((wd f 1 : Nat) : Int), .int .u64 ((wd f 2 : Nat) : Int), .int .u64 ((wd f 3 : Nat) : Int), .int .i64 mn, .int .i64 mx, .slice a ps.length c] 41)).alloc (.cells (setC 0 0 0 0) 38)).alloc (.cells #[.int .u64 ((wd f 0 : Nat) : Int), .int .u64 ((wd f 1 : Nat) : Int), .int .u64 ((wd f 2 : Nat) : Int), .int .u64 ((wd f 3 : Nat) : Int)] 38) = w0 := hw0.symm
  have m0 : w0.cell? ⟨w.heap.size, 0, none⟩ = some (.int .i64 op) := HA.out.cell 0 _ rfl
  have m1 : w0.cell? ⟨w.heap.size, 1, none⟩ = some (.int .u64 ((wd f 0 : Nat) : Int)) := HA.out.cell 1 _ rfl
  have m2 : w0.cell? ⟨w.heap.size, 2, none⟩ = some (.int .u64 ((wd f 1 : Nat) : Int)) := HA.out.cell 2 _ rfl
  have m3 : w0.cell? ⟨w.heap.size, 3, none⟩ = some (.int .u64 ((wd f 2 : Nat) : Int)) := HA.out.cell 3 _ rfl
  have m4 : w0.cell? ⟨w.heap.size, 4, none⟩ = some (.int .u64 ((wd f 3 : Nat) : Int)) := HA.out.cell 4 _ rfl
  have m5 : w0.cell? ⟨w.heap.size, 5, none⟩ = some (.int .i64 mn) := HA.out.cell 5 _ rfl
  have m6 : w0.cell? ⟨w.heap.size, 6, none⟩ = some (.int .i64 mx) := HA.out.cell 6 _ rfl
  have m7 : w0.cell? ⟨w.heap.size, 7, none⟩ = some (.slice a ps.length c) := HA.out.cell 7 _ rfl
  clear h hw0
  unfold setOf
  go_enter Tryz.func19, Tryz.ntmps19
  go_wp2_with fail
  clear hw0' m0 m1 m2 m3 m4 m5 m6 m7
  go_loopw [11] (fun i wr => ∃ k : Nat, k ≤ ps.length ∧ i = .int .i64 k ∧ AtG wr w.heap.size 41 (nodeC op f mn mx (.slice a ps.length c)) ∧ AtG wr (w.heap.size + 1) 38 (setC 0 0 0 0) ∧ AtG wr (w.heap.size + 1 + 1) 38 (cellsOf fun x => f x || anyL (ps.take k) x) ∧ Below w.heap.size w wr) (fun i _ => ps.length - (intOf i).toNat)
  case atStart => exact ⟨0, Nat.zero_le _, rfl, HA.out, HR.out, HS.out, HB0.out⟩
  case round =>
    clear HA HR HS HB0
    obtain ⟨k, hk, rfl, hat, hrs, hst, hb⟩ := hrel
    have HAT := Lib.hid hat; have HB := Lib.hid hb; have HRS := Lib.hid hrs; have HST := Lib.hid hst
    have m7 : wr.cell? ⟨w.heap.size, 7, none⟩ = some (.slice a ps.length c) := hat.cell 7 _ rfl
    clear hat hb hrs hst
    by_cases hlt : k < ps.length
    · obtain ⟨b, off, cap, heq, hcap, op', f', mn', mx', kids', ka, kc, ht, hc8, hkn⟩ := kid_at H.out (trees_get hlt)
      injection heq with e1 e2 e3
      subst e1; subst e3
      clear e2
      rw [trees_len] at hcap
      have hI := ih ps[k] (List.getElem_mem hlt)
      unfold pAnyC at hI
      rw [ht] at hI hkn
      have hI2 := fun w h => hI w ka kids'.length kc h
      unfold nodeV at hI2
      have HE : Hid ((fun x => (f x || anyL (ps.take k) x) || anyP ps[k] x) = fun x => f x || anyL (ps.take (k + 1)) x) := Lib.hid (by
        funext x; rw [anyL_snoc ps k hlt, Bool.or_assoc])
      generalize anyP ps[k] = G at *
      obtain ⟨F, hF⟩ : ∃ F : Nat → Bool, F = fun x => f x || anyL (ps.take k) x := ⟨_, rfl⟩
      have HE2 : Hid ((fun x => F x || G x) = fun x => f x || anyL (ps.take (k + 1)) x) := Lib.hid (by rw [← HE.out, hF])
      rw [← hF] at HST
      have HI := Lib.hid hI2; have HKN := Lib.hid hkn
      obtain ⟨kn, hkl⟩ : ∃ kn, kn = kids'.length := ⟨_, rfl⟩
      rw [← hkl] at HKN HI hc8
      have HC8 := Lib.hid hc8
      have hlb : b < w.heap.size := World.block_lt_of_cell? w _ hc8.c0
      have HWS := Lib.hid HB.out.size
      clear hkn hI hI2 hkl ht hF HE hc8
      obtain ⟨c0, c1, c2, c3, c4, c5, c6, c7⟩ := Cell8.below HC8.out HB.out
      go_upto_region 5 with (fail)
      have HAT1 := Lib.hid (HAT.out.alloc (.cells (nodeC op' f' mn' mx' (.slice ka kn kc)) 41)); have HRS1 := Lib.hid (HRS.out.alloc (.cells (nodeC op' f' mn' mx' (.slice ka kn kc)) 41)); have HST1 := Lib.hid (HST.out.alloc (.cells (nodeC op' f' mn' mx' (.slice ka kn kc)) 41)); have HB1 := Lib.hid (HB.out.alloc HB.out.size (.cells (nodeC op' f' mn' mx' (.slice ka kn kc)) 41)); have HC1 := Lib.hid (AtG.new wr 41 (nodeC op' f' mn' mx' (.slice ka kn kc)))
      have HNE : Hid (wr.heap.size ≠ w.heap.size + 1 + 1) := Lib.hid (by have := HST.out.lt; omega)
      clear c0 c1 c2 c3 c4 c5 c6 c7
      refine RgX.start (by kernel_rfl) [(4, fun w5 w6 => ∃ g, w6 = putS w5 (w.heap.size + 1 + 1) g)] [⟨fun w5 => AtG w5 w.heap.size 41 (nodeC op f mn mx (.slice (some ⟨b, off, none⟩) ps.length c)) ∧ AtG w5 (w.heap.size + 1) 38 (setC 0 0 0 0) ∧ Below w.heap.size w w5 ∧ AtG w5 wr.heap.size 41 (nodeC op' f' mn' mx' (.slice ka kn kc)), none⟩, ⟨fun w5 => AtG w5 (w.heap.size + 1 + 1) 38 (cellsOf F), some 4⟩] ⟨⟨fun _ _ h hb => ⟨h.1.below hb, h.2.1.below hb, h.2.2.1.trans (hb.mono h.2.2.1.size), h.2.2.2.below hb⟩, ⟨fun _ _ _ _ => (fun w5 w6 h he => by obtain ⟨g, rfl⟩ := he; exact ⟨putS_far h.1 (by omega) _, putS_far h.2.1 (by omega) _, putS_below h.2.2.1 (by omega) _, putS_far h.2.2.2 HNE.out _⟩), trivial⟩⟩, ⟨fun _ _ h hb => h.below hb, ⟨fun _ h _ _ => absurd rfl h, trivial⟩⟩, trivial⟩ (by kernel_rfl) (by kernel_rfl) ⟨⟨HAT1.out.drew, HRS1.out.drew, HB1.out.drew, HC1.out.drew⟩, HST1.out.drew, trivial⟩ ?_
      show RgX.Build _ _ _ _ _ _ 0 [_, _, _, _, _] []
      refine RgX.build_cons (m := 1) (r := RgX.eq _) (RgX.one_plain (by rfl) (by (intro ax wx hk Kx hK; have k3 := hk.base 3 _ rfl rfl; have hL := hk.fact 0 0 _ rfl rfl; (try dsimp only at hL); have hs := hk.fact 1 1 _ rfl rfl; (try dsimp only at hs); clear hk; have z0 : wx.cell? ⟨w.heap.size + 1 + 1, 0, none⟩ = some (.int .u64 ((wd (F) 0 : Nat) : Int)) := hs.cell 0 _ rfl; have z1 : wx.cell? ⟨w.heap.size + 1 + 1, 1, none⟩ = some (.int .u64 ((wd (F) 1 : Nat) : Int)) := hs.cell 1 _ rfl; have z2 : wx.cell? ⟨w.heap.size + 1 + 1, 2, none⟩ = some (.int .u64 ((wd (F) 2 : Nat) : Int)) := hs.cell 2 _ rfl; have z3 : wx.cell? ⟨w.heap.size + 1 + 1, 3, none⟩ = some (.int .u64 ((wd (F) 3 : Nat) : Int)) := hs.cell 3 _ rfl; go_simp; refine hK _ _ (fun h => by cases h) (fun _ _ => ?_) (Below.refl _ _); apply RgX.mk))) ?_ rfl RgX.keep_eq (fun _ h => by cases h)
      refine RgX.build_cons (m := 2) (r := RgX.eq _) (RgX.one_plain (by rfl) (by (intro ax wx hk Kx hK; have k5 := hk.base 5 _ rfl rfl; have hL := hk.fact 0 0 _ rfl rfl; (try dsimp only at hL); have hs := hk.fact 1 1 _ rfl rfl; (try dsimp only at hs); clear hk; have q0 : wx.cell? ⟨wr.heap.size, 0, none⟩ = some (.int .i64 op') := hL.2.2.2.cell 0 _ rfl; have q1 : wx.cell? ⟨wr.heap.size, 1, none⟩ = some (.int .u64 ((wd f' 0 : Nat) : Int)) := hL.2.2.2.cell 1 _ rfl; have q2 : wx.cell? ⟨wr.heap.size, 2, none⟩ = some (.int .u64 ((wd f' 1 : Nat) : Int)) := hL.2.2.2.cell 2 _ rfl; have q3 : wx.cell? ⟨wr.heap.size, 3, none⟩ = some (.int .u64 ((wd f' 2 : Nat) : Int)) := hL.2.2.2.cell 3 _ rfl; have q4 : wx.cell? ⟨wr.heap.size, 4, none⟩ = some (.int .u64 ((wd f' 3 : Nat) : Int)) := hL.2.2.2.cell 4 _ rfl; have q5 : wx.cell? ⟨wr.heap.size, 5, none⟩ = some (.int .i64 mn') := hL.2.2.2.cell 5 _ rfl; have q6 : wx.cell? ⟨wr.heap.size, 6, none⟩ = some (.int .i64 mx') := hL.2.2.2.cell 6 _ rfl; have q7 : wx.cell? ⟨wr.heap.size, 7, none⟩ = some (.slice ka kn kc) := hL.2.2.2.cell 7 _ rfl; go_simp; refine hK _ _ (fun h => by cases h) (fun _ _ => ?_) (Below.refl _ _); apply RgX.mk))) ?_ rfl RgX.keep_eq (fun _ h => by cases h)
      refine RgX.build_cons (m := 3) (r := RgX.eq _) (RgX.one_plain (by rfl) (by (intro ax wx hk Kx hK; obtain ⟨v16, k16, h16⟩ := hk.dep 0 1 16 _ rfl rfl rfl; (first | (replace h16 := h16 9 undef rfl rfl; first | (cases (h16 : v16 = _)) | (obtain ⟨rfl, h16⟩ := h16) | skip) | skip); have hL := hk.fact 0 0 _ rfl rfl; (try dsimp only at hL); have hs := hk.fact 1 1 _ rfl rfl; (try dsimp only at hs); clear hk; go_simp; refine (HI.out _ (NAt.below HKN.out hL.2.2.1)).mono ?_; rintro e w' ⟨rfl, hb⟩; refine hK _ _ (fun h => by cases h) (fun _ _ => ?_) hb; apply RgX.mk))) ?_ rfl RgX.keep_eq (fun _ h => by cases h)
      refine RgX.build_cons (m := 4) (r := RgX.eq _) (RgX.one_plain (by rfl) (by (intro ax wx hk Kx hK; obtain ⟨v15, k15, h15⟩ := hk.dep 0 0 15 _ rfl rfl rfl; (first | (replace h15 := h15 9 undef rfl rfl; first | (cases (h15 : v15 = _)) | (obtain ⟨rfl, h15⟩ := h15) | skip) | skip); obtain ⟨v17, k17, h17⟩ := hk.dep 0 2 17 _ rfl rfl rfl; (first | (replace h17 := h17 9 undef rfl rfl; first | (cases (h17 : v17 = _)) | (obtain ⟨rfl, h17⟩ := h17) | skip) | skip); have hL := hk.fact 0 0 _ rfl rfl; (try dsimp only at hL); have hs := hk.fact 1 1 _ rfl rfl; (try dsimp only at hs); clear hk; go_simp; refine (or_any F G _).mono ?_; rintro e w' ⟨rfl, hb⟩; refine hK _ _ (fun h => by cases h) (fun _ _ => ?_) hb; apply RgX.mk))) ?_ rfl RgX.keep_eq (fun _ h => by cases h)
      refine RgX.build_cons (m := 5) (r := (⟨fun _ _ w5 => AtG w5 (w.heap.size + 1 + 1) 38 (cellsOf fun x => F x || G x), none, none⟩ : RgX.Rl)) (RgX.one_plain (by rfl) (by (intro ax wx hk Kx hK; have k3 := hk.base 3 _ rfl rfl; obtain ⟨v18, k18, h18⟩ := hk.dep 0 3 18 _ rfl rfl rfl; (first | (replace h18 := h18 9 undef rfl rfl; first | (cases (h18 : v18 = _)) | (obtain ⟨rfl, h18⟩ := h18) | skip) | skip); have hL := hk.fact 0 0 _ rfl rfl; (try dsimp only at hL); have hs := hk.fact 1 0 _ rfl rfl; (try dsimp only at hs); clear hk; (have d0 : wx.cell? ⟨w.heap.size + 1 + 1, 0, none⟩ = some (.int .u64 ((wd (F) 0 : Nat) : Int)) := hs.cell 0 _ rfl; have d1 : wx.cell? ⟨w.heap.size + 1 + 1, 1, none⟩ = some (.int .u64 ((wd (F) 1 : Nat) : Int)) := hs.cell 1 _ rfl; have d2 : wx.cell? ⟨w.heap.size + 1 + 1, 2, none⟩ = some (.int .u64 ((wd (F) 2 : Nat) : Int)) := hs.cell 2 _ rfl; have d3 : wx.cell? ⟨w.heap.size + 1 + 1, 3, none⟩ = some (.int .u64 ((wd (F) 3 : Nat) : Int)) := hs.cell 3 _ rfl; have f0 := hs.frozen 0; have f1 := hs.frozen 1; have f2 := hs.frozen 2; have f3 := hs.frozen 3; unfold setOf at k18; go_simp; exact hK undef _ (fun _ => rfl) (fun u hu => putS_at hs _) ⟨_, rfl⟩)))) ?_ rfl (RgX.keep_r (fun _ _ _ _ h hb => h.below hb) (fun _ _ => ⟨fun h _ _ _ => absurd rfl h, trivial⟩)) (fun _ h => by cases h)
      refine RgX.build_end fun wx hj => ?_
      have hL := hj 0 _ rfl rfl
      clear hj
      refine RgX.fin_eq rfl ?_
      refine RgX.fin_eq rfl ?_
      refine RgX.fin_eq rfl ?_
      refine RgX.fin_eq rfl ?_
      refine RgX.fin_none rfl fun s4 => ?_
      refine RgX.fin_nil ?_
      simp only [List.set_cons_zero, List.set_cons_succ]
      have hs5 := s4 rfl undef rfl
      rw [HE2.out] at hs5
      have HL := Lib.hid hL; have HS5 := Lib.hid hs5
      clear s4 hL hs5
      go_wp2_with fail
      exact ⟨⟨k + 1, by omega, by go_num, HL.out.1, HL.out.2.1, HS5.out, HL.out.2.2.1⟩, by simp [intOf]; omega⟩
    · obtain rfl : k = ps.length := by omega
      rw [List.take_length] at HST
      obtain ⟨F, hF⟩ : ∃ F : Nat → Bool, F = fun x => f x || anyL ps x := ⟨_, rfl⟩
      rw [← hF] at HST
      have HF := Lib.hid hF
      clear hF
      have z0 : wr.cell? ⟨w.heap.size + 1 + 1, 0, none⟩ = some (.int .u64 ((wd (F) 0 : Nat) : Int)) := HST.out.cell 0 _ rfl
      have z1 : wr.cell? ⟨w.heap.size + 1 + 1, 1, none⟩ = some (.int .u64 ((wd (F) 1 : Nat) : Int)) := HST.out.cell 1 _ rfl
      have z2 : wr.cell? ⟨w.heap.size + 1 + 1, 2, none⟩ = some (.int .u64 ((wd (F) 2 : Nat) : Int)) := HST.out.cell 2 _ rfl
      have z3 : wr.cell? ⟨w.heap.size + 1 + 1, 3, none⟩ = some (.int .u64 ((wd (F) 3 : Nat) : Int)) := HST.out.cell 3 _ rfl
      have d0 := (HRS.out).cell 0 _ rfl; have d1 := (HRS.out).cell 1 _ rfl; have d2 := (HRS.out).cell 2 _ rfl; have d3 := (HRS.out).cell 3 _ rfl
      have f0 := (HRS.out).frozen 0; have f1 := (HRS.out).frozen 1; have f2 := (HRS.out).frozen 2; have f3 := (HRS.out).frozen 3
      go_wp2_with fail
      refine bodyPost_ret (v := setOf F) (by simp [results, Tryz.results19, go_sem, d0, d1, d2, d3]; try rfl) rfl ⟨by rw [HF.out]; rfl, ?_⟩
      exact putS_below HB.out (by omega) F
theorem pAny_any (p : Pat) : Wf p → pAnyC p := by
  refine Pat.ind (M := fun p => Wf p → pAnyC p) ?_ ?_ ?_ ?_ p
  · intro f _ w a n c h
    obtain rfl : n = 0 := by
      obtain ⟨a', c', hn⟩ := KAt.slice h
      injection hn with _ hn _
    have := pAny_node 1 f 0 0 [] (by simp) (by simp) w a c h
    rw [show (fun x => f x || anyL [] x) = anyP (.one f) from by funext x; simp [anyL, anyP]] at this
    exact this
  · intro l ih hw w a n c h
    cases hw with | cat _ h1 h2 h3 =>
    obtain rfl : n = l.length := by
      obtain ⟨a', c', hn⟩ := KAt.slice h
      injection hn with _ hn _
      rw [trees_len] at hn; exact hn
    have := pAny_node 2 emp 0 0 l h3 (fun p hp => ih p hp (h1 p hp)) w a c h
    rw [show (fun x => emp x || anyL l x) = anyP (.cat l) from by funext x; simp [emp, anyP]] at this
    exact this
  · intro l ih hw w a n c h
    cases hw with | alt _ h1 h2 h3 =>
    obtain rfl : n = l.length := by
      obtain ⟨a', c', hn⟩ := KAt.slice h
      injection hn with _ hn _
      rw [trees_len] at hn; exact hn
    have := pAny_node 3 emp 0 0 l h3 (fun p hp => ih p hp (h1 p hp)) w a c h
    rw [show (fun x => emp x || anyL l x) = anyP (.alt l) from by funext x; simp [emp, anyP]] at this
    exact this
  · intro mn mx p ih hw w a n c h
    cases hw with | rep _ _ _ h1 h2 h3 h4 =>
    obtain rfl : n = 1 := by
      obtain ⟨a', c', hn⟩ := KAt.slice h
      injection hn with _ hn _
    have := pAny_node 4 emp (mn : Int) (mx : Int) [p] (by simp) (fun q hq => by simp at hq; subst hq; exact ih h1) w a c h
    rw [show (fun x => emp x || anyL [p] x) = anyP (.rep mn mx p) from by funext x; simp [emp, anyL, anyP]] at this
    exact this
/-- what snaffleref02.Any does with a pattern -/
def rAnyC (p : Pat) : Prop := ∀ (w : World) (a : Option Addr) (n c : Nat), NAt w p.tree (.slice a n c) → Calls Tryz.prog 32 #[nodeV p.tree (.slice a n c)] w fun e w' => e = .returned (setOf (anyP p)) ∧ Below w.heap.size w w'
set_option maxRecDepth 100000 in
set_option maxHeartbeats 1600000 in
theorem rAny_node (op : Int) (f : Nat → Bool) (mn mx : Int) (ps : List Pat) (hl : ps.length ≤ 1000) (ih : ∀ p ∈ ps, rAnyC p) (w : World) (a : Option Addr) (c : Nat) (h : NAt w (.node op f mn mx (Pat.trees ps)) (.slice a ps.length c)) :
    Calls Tryz.prog 32 #[.agg #[.int .i64 op, .int .u64 ((wd f 0 : Nat) : Int), .int .u64 ((wd f 1 : Nat) : Int), .int .u64 ((wd f 2 : Nat) : Int), .int .u64 ((wd f 3 : Nat) : Int), .int .i64 mn, .int .i64 mx, .slice a ps.length c]] w fun e w' => e = .returned (setOf fun x => f x || anyL ps x) ∧ Below w.heap.size w w' := by
  obtain ⟨w0, hw0⟩ : ∃ w0 : World, w0 = ((w.alloc (.cells (nodeC op f mn mx (.slice a ps.length c)) 41)).alloc (.cells (setC 0 0 0 0) 38)).alloc (.cells (cellsOf f) 38) := ⟨_, rfl⟩
  have H := Lib.hid h
  have HA : Hid (AtG w0 w.heap.size 41 (nodeC op f mn mx (.slice a ps.length c))) := Lib.hid (by rw [hw0]; exact ((AtG.new _ _ _).alloc _).alloc _)
  have HR : Hid (AtG w0 (w.heap.size + 1) 38 (setC 0 0 0 0)) := Lib.hid (by
    rw [hw0]
    have := (AtG.new (w.alloc (.cells (nodeC op f mn mx (.slice a ps.length c)) 41)) 38 (setC 0 0 0 0)).alloc (.cells (cellsOf f) 38)
    simpa using this)
  have HS : Hid (AtG w0 (w.heap.size + 1 + 1) 38 (cellsOf fun x => f x || anyL (ps.take 0) x)) := Lib.hid (by
    rw [hw0, show (cellsOf fun x => f x || anyL (ps.take 0) x) = cellsOf f from cellsOf_ext fun x _ => by simp [anyL]]
    have := AtG.new ((w.alloc (.cells (nodeC op f mn mx (.slice a ps.length c)) 41)).alloc (.cells (setC 0 0 0 0) 38)) 38 (cellsOf f)
    simpa using this)
  have HB0 : Hid (Below w.heap.size w w0) := Lib.hid (by rw [hw0]; go_grown)
  have hlI : (ps.length : Int) ≤ 1000 := by omega
  have hw0' : ((w.alloc (.cells #[.int .i64 op, .int .u64 ((wd f 0 : Nat) : Int), .int .u64 ((wd f 1 : Nat) : Int), .int .u64 ((wd f 2 : Nat) : Int), .int .u64 ((wd f 3 : Nat) : Int), .int .i64 mn, .int .i64 mx, .slice a ps.length c] 41)).alloc (.cells (setC 0 0 0 0) 38)).alloc (.cells #[.int .u64 ((wd f 0 : Nat) : Int), .int .u64 ((wd f 1 : Nat) : Int), .int .u64 ((wd f 2 : Nat) : Int), .int .u64 ((wd f 3 : Nat) : Int)] 38) = w0 := hw0.symm
  have m0 : w0.cell? ⟨w.heap.size, 0, none⟩ = some (.int .i64 op) := HA.out.cell 0 _ rfl
  have m1 : w0.cell? ⟨w.heap.size, 1, none⟩ = some (.int .u64 ((wd f 0 : Nat) : Int)) := HA.out.cell 1 _ rfl
  have m2 : w0.cell? ⟨w.heap.size, 2, none⟩ = some (.int .u64 ((wd f 1 : Nat) : Int)) := HA.out.cell 2 _ rfl
  have m3 : w0.cell? ⟨w.heap.size, 3, none⟩ = some (.int .u64 ((wd f 2 : Nat) : Int)) := HA.out.cell 3 _ rfl
  have m4 : w0.cell? ⟨w.heap.size, 4, none⟩ = some (.int .u64 ((wd f 3 : Nat) : Int)) := HA.out.cell 4 _ rfl
  have m5 : w0.cell? ⟨w.heap.size, 5, none⟩ = some (.int .i64 mn) := HA.out.cell 5 _ rfl
  have m6 : w0.cell? ⟨w.heap.size, 6, none⟩ = some (.int .i64 mx) := HA.out.cell 6 _ rfl
  have m7 : w0.cell? ⟨w.heap.size, 7, none⟩ = some (.slice a ps.length c) := HA.out.cell 7 _ rfl
  clear h hw0
  unfold setOf
  go_enter Tryz.func32, Tryz.ntmps32
  go_wp2_with fail
  clear hw0' m0 m1 m2 m3 m4 m5 m6 m7
  go_loopw [4] (fun i wr => ∃ k : Nat, k ≤ ps.length ∧ i = .int .i64 k ∧ AtG wr w.heap.size 41 (nodeC op f mn mx (.slice a ps.length c)) ∧ AtG wr (w.heap.size + 1) 38 (setC 0 0 0 0) ∧ AtG wr (w.heap.size + 1 + 1) 38 (cellsOf fun x => f x || anyL (ps.take k) x) ∧ Below w.heap.size w wr) (fun i _ => ps.length - (intOf i).toNat)
  case atStart => exact ⟨0, Nat.zero_le _, rfl, HA.out, HR.out, HS.out, HB0.out⟩
  case round =>
    clear HA HR HS HB0
    obtain ⟨k, hk, rfl, hat, hrs, hst, hb⟩ := hrel
    have HAT := Lib.hid hat; have HB := Lib.hid hb; have HRS := Lib.hid hrs; have HST := Lib.hid hst
    have m7 : wr.cell? ⟨w.heap.size, 7, none⟩ = some (.slice a ps.length c) := hat.cell 7 _ rfl
    clear hat hb hrs hst
    by_cases hlt : k < ps.length
    · obtain ⟨b, off, cap, heq, hcap, op', f', mn', mx', kids', ka, kc, ht, hc8, hkn⟩ := kid_at H.out (trees_get hlt)
      injection heq with e1 e2 e3
      subst e1; subst e3
      clear e2
      rw [trees_len] at hcap
      have hI := ih ps[k] (List.getElem_mem hlt)
      unfold rAnyC at hI
      rw [ht] at hI hkn
      have hI2 := fun w h => hI w ka kids'.length kc h
      unfold nodeV at hI2
      have HE : Hid ((fun x => (f x || anyL (ps.take k) x) || anyP ps[k] x) = fun x => f x || anyL (ps.take (k + 1)) x) := Lib.hid (by
        funext x; rw [anyL_snoc ps k hlt, Bool.or_assoc])
      generalize anyP ps[k] = G at *
      obtain ⟨F, hF⟩ : ∃ F : Nat → Bool, F = fun x => f x || anyL (ps.take k) x := ⟨_, rfl⟩
      have HE2 : Hid ((fun x => F x || G x) = fun x => f x || anyL (ps.take (k + 1)) x) := Lib.hid (by rw [← HE.out, hF])
      rw [← hF] at HST
      have HI := Lib.hid hI2; have HKN := Lib.hid hkn
      obtain ⟨kn, hkl⟩ : ∃ kn, kn = kids'.length := ⟨_, rfl⟩
      rw [← hkl] at HKN HI hc8
      have HC8 := Lib.hid hc8
      have hlb : b < w.heap.size := World.block_lt_of_cell? w _ hc8.c0
      have HWS := Lib.hid HB.out.size
      clear hkn hI hI2 hkl ht hF HE hc8
      go_upto_region 5 with (fail)
      refine RgX.start (by kernel_rfl) [(8, fun w5 w6 => ∃ g, w6 = putS w5 (w.heap.size + 1 + 1) g)] [⟨fun w5 => AtG w5 w.heap.size 41 (nodeC op f mn mx (.slice (some ⟨b, off, none⟩) ps.length c)) ∧ AtG w5 (w.heap.size + 1) 38 (setC 0 0 0 0) ∧ Below w.heap.size w w5, none⟩, ⟨fun w5 => AtG w5 (w.heap.size + 1 + 1) 38 (cellsOf F), some 8⟩] ⟨⟨fun _ _ h hb => ⟨h.1.below hb, h.2.1.below hb, h.2.2.trans (hb.mono h.2.2.size)⟩, ⟨fun _ _ _ _ => (fun w5 w6 h he => by obtain ⟨g, rfl⟩ := he; exact ⟨putS_far h.1 (by omega) _, putS_far h.2.1 (by omega) _, putS_below h.2.2 (by omega) _⟩), trivial⟩⟩, ⟨fun _ _ h hb => h.below hb, ⟨fun _ h _ _ => absurd rfl h, trivial⟩⟩, trivial⟩ (by kernel_rfl) (by kernel_rfl) ⟨⟨HAT.out.drew, HRS.out.drew, HB.out.drew⟩, HST.out.drew, trivial⟩ ?_
      show RgX.Build _ _ _ _ _ _ 0 [_, _, _, _, _, _, _, _, _] []
      refine RgX.build_cons (m := 1) (r := RgX.eq _) (RgX.one_plain (by rfl) (by (intro ax wx hk Kx hK; have k3 := hk.base 3 _ rfl rfl; have hL := hk.fact 0 0 _ rfl rfl; (try dsimp only at hL); have hs := hk.fact 1 1 _ rfl rfl; (try dsimp only at hs); clear hk; have z0 : wx.cell? ⟨w.heap.size + 1 + 1, 0, none⟩ = some (.int .u64 ((wd (F) 0 : Nat) : Int)) := hs.cell 0 _ rfl; have z1 : wx.cell? ⟨w.heap.size + 1 + 1, 1, none⟩ = some (.int .u64 ((wd (F) 1 : Nat) : Int)) := hs.cell 1 _ rfl; have z2 : wx.cell? ⟨w.heap.size + 1 + 1, 2, none⟩ = some (.int .u64 ((wd (F) 2 : Nat) : Int)) := hs.cell 2 _ rfl; have z3 : wx.cell? ⟨w.heap.size + 1 + 1, 3, none⟩ = some (.int .u64 ((wd (F) 3 : Nat) : Int)) := hs.cell 3 _ rfl; go_simp; refine hK _ _ (fun h => by cases h) (fun _ _ => ?_) (Below.refl _ _); apply RgX.mk))) ?_ rfl RgX.keep_eq (fun _ h => by cases h)
      refine RgX.build_cons (m := 2) (r := RgX.eq _) (RgX.one_plain (by rfl) (by (intro ax wx hk Kx hK; have k1 := hk.base 1 _ rfl rfl; have hL := hk.fact 0 0 _ rfl rfl; (try dsimp only at hL); have hs := hk.fact 1 1 _ rfl rfl; (try dsimp only at hs); clear hk; go_simp; refine hK _ _ (fun h => by cases h) (fun _ _ => ?_) (Below.refl _ _); apply RgX.mk))) ?_ rfl RgX.keep_eq (fun _ h => by cases h)
      refine RgX.build_cons (m := 3) (r := RgX.eq _) (RgX.one_plain (by rfl) (by (intro ax wx hk Kx hK; obtain ⟨v15, k15, h15⟩ := hk.dep 0 1 15 _ rfl rfl rfl; (first | (replace h15 := h15 9 undef rfl rfl; first | (cases (h15 : v15 = _)) | (obtain ⟨rfl, h15⟩ := h15) | skip) | skip); have hL := hk.fact 0 0 _ rfl rfl; (try dsimp only at hL); have hs := hk.fact 1 1 _ rfl rfl; (try dsimp only at hs); clear hk; have m7 : wx.cell? ⟨w.heap.size, 7, none⟩ = some (.slice (some ⟨b, off, none⟩) ps.length c) := hL.1.cell 7 _ rfl; go_simp; refine hK _ _ (fun h => by cases h) (fun _ _ => ?_) (Below.refl _ _); apply RgX.mk))) ?_ rfl RgX.keep_eq (fun _ h => by cases h)
      refine RgX.build_cons (m := 4) (r := RgX.eq _) (RgX.one_plain (by rfl) (by (intro ax wx hk Kx hK; have k4 := hk.base 4 _ rfl rfl; have hL := hk.fact 0 0 _ rfl rfl; (try dsimp only at hL); have hs := hk.fact 1 1 _ rfl rfl; (try dsimp only at hs); clear hk; go_simp; refine hK _ _ (fun h => by cases h) (fun _ _ => ?_) (Below.refl _ _); apply RgX.mk))) ?_ rfl RgX.keep_eq (fun _ h => by cases h)
      refine RgX.build_cons (m := 5) (r := RgX.eq _) (RgX.one_plain (by rfl) (by (intro ax wx hk Kx hK; obtain ⟨v16, k16, h16⟩ := hk.dep 0 2 16 _ rfl rfl rfl; (first | (replace h16 := h16 9 undef rfl rfl; first | (cases (h16 : v16 = _)) | (obtain ⟨rfl, h16⟩ := h16) | skip) | skip); obtain ⟨v17, k17, h17⟩ := hk.dep 0 3 17 _ rfl rfl rfl; (first | (replace h17 := h17 9 undef rfl rfl; first | (cases (h17 : v17 = _)) | (obtain ⟨rfl, h17⟩ := h17) | skip) | skip); have hL := hk.fact 0 0 _ rfl rfl; (try dsimp only at hL); have hs := hk.fact 1 1 _ rfl rfl; (try dsimp only at hs); clear hk; go_simp; refine hK _ _ (fun h => by cases h) (fun _ _ => ?_) (Below.refl _ _); apply RgX.mk))) ?_ rfl RgX.keep_eq (fun _ h => by cases h)
      refine RgX.build_cons (m := 6) (r := RgX.eq _) (RgX.one_plain (by rfl) (by (intro ax wx hk Kx hK; obtain ⟨v18, k18, h18⟩ := hk.dep 0 4 18 _ rfl rfl rfl; (first | (replace h18 := h18 9 undef rfl rfl; first | (cases (h18 : v18 = _)) | (obtain ⟨rfl, h18⟩ := h18) | skip) | skip); have hL := hk.fact 0 0 _ rfl rfl; (try dsimp only at hL); have hs := hk.fact 1 1 _ rfl rfl; (try dsimp only at hs); clear hk; obtain ⟨c0, c1, c2, c3, c4, c5, c6, c7⟩ := Cell8.below HC8.out hL.2.2; go_simp; refine hK _ _ (fun h => by cases h) (fun _ _ => ?_) (Below.refl _ _); apply RgX.mk))) ?_ rfl RgX.keep_eq (fun _ h => by cases h)
      refine RgX.build_cons (m := 7) (r := RgX.eq _) (RgX.one_plain (by rfl) (by (intro ax wx hk Kx hK; obtain ⟨v19, k19, h19⟩ := hk.dep 0 5 19 _ rfl rfl rfl; (first | (replace h19 := h19 9 undef rfl rfl; first | (cases (h19 : v19 = _)) | (obtain ⟨rfl, h19⟩ := h19) | skip) | skip); have hL := hk.fact 0 0 _ rfl rfl; (try dsimp only at hL); have hs := hk.fact 1 1 _ rfl rfl; (try dsimp only at hs); clear hk; go_simp; refine (HI.out _ (NAt.below HKN.out hL.2.2)).mono ?_; rintro e w' ⟨rfl, hb⟩; refine hK _ _ (fun h => by cases h) (fun _ _ => ?_) hb; apply RgX.mk))) ?_ rfl RgX.keep_eq (fun _ h => by cases h)
      refine RgX.build_cons (m := 8) (r := RgX.eq _) (RgX.one_plain (by rfl) (by (intro ax wx hk Kx hK; obtain ⟨v14, k14, h14⟩ := hk.dep 0 0 14 _ rfl rfl rfl; (first | (replace h14 := h14 9 undef rfl rfl; first | (cases (h14 : v14 = _)) | (obtain ⟨rfl, h14⟩ := h14) | skip) | skip); obtain ⟨v20, k20, h20⟩ := hk.dep 0 6 20 _ rfl rfl rfl; (first | (replace h20 := h20 9 undef rfl rfl; first | (cases (h20 : v20 = _)) | (obtain ⟨rfl, h20⟩ := h20) | skip) | skip); have hL := hk.fact 0 0 _ rfl rfl; (try dsimp only at hL); have hs := hk.fact 1 1 _ rfl rfl; (try dsimp only at hs); clear hk; go_simp; refine (refOr_any F G _).mono ?_; rintro e w' ⟨rfl, hb⟩; refine hK _ _ (fun h => by cases h) (fun _ _ => ?_) hb; apply RgX.mk))) ?_ rfl RgX.keep_eq (fun _ h => by cases h)
      refine RgX.build_cons (m := 9) (r := (⟨fun _ _ w5 => AtG w5 (w.heap.size + 1 + 1) 38 (cellsOf fun x => F x || G x), none, none⟩ : RgX.Rl)) (RgX.one_plain (by rfl) (by (intro ax wx hk Kx hK; have k3 := hk.base 3 _ rfl rfl; obtain ⟨v21, k21, h21⟩ := hk.dep 0 7 21 _ rfl rfl rfl; (first | (replace h21 := h21 9 undef rfl rfl; first | (cases (h21 : v21 = _)) | (obtain ⟨rfl, h21⟩ := h21) | skip) | skip); have hL := hk.fact 0 0 _ rfl rfl; (try dsimp only at hL); have hs := hk.fact 1 0 _ rfl rfl; (try dsimp only at hs); clear hk; (have d0 : wx.cell? ⟨w.heap.size + 1 + 1, 0, none⟩ = some (.int .u64 ((wd (F) 0 : Nat) : Int)) := hs.cell 0 _ rfl; have d1 : wx.cell? ⟨w.heap.size + 1 + 1, 1, none⟩ = some (.int .u64 ((wd (F) 1 : Nat) : Int)) := hs.cell 1 _ rfl; have d2 : wx.cell? ⟨w.heap.size + 1 + 1, 2, none⟩ = some (.int .u64 ((wd (F) 2 : Nat) : Int)) := hs.cell 2 _ rfl; have d3 : wx.cell? ⟨w.heap.size + 1 + 1, 3, none⟩ = some (.int .u64 ((wd (F) 3 : Nat) : Int)) := hs.cell 3 _ rfl; have f0 := hs.frozen 0; have f1 := hs.frozen 1; have f2 := hs.frozen 2; have f3 := hs.frozen 3; unfold setOf at k21; go_simp; exact hK undef _ (fun _ => rfl) (fun u hu => putS_at hs _) ⟨_, rfl⟩)))) ?_ rfl (RgX.keep_r (fun _ _ _ _ h hb => h.below hb) (fun _ _ => ⟨fun h _ _ _ => absurd rfl h, trivial⟩)) (fun _ h => by cases h)
      refine RgX.build_end fun wx hj => ?_
      have hL := hj 0 _ rfl rfl
      clear hj
      refine RgX.fin_eq rfl ?_
      refine RgX.fin_eq rfl ?_
      refine RgX.fin_eq rfl ?_
      refine RgX.fin_eq rfl ?_
      refine RgX.fin_eq rfl ?_
      refine RgX.fin_eq rfl ?_
      refine RgX.fin_eq rfl ?_
      refine RgX.fin_eq rfl ?_
      refine RgX.fin_none rfl fun s8 => ?_
      refine RgX.fin_nil ?_
      simp only [List.set_cons_zero, List.set_cons_succ]
      have hs5 := s8 rfl undef rfl
      rw [HE2.out] at hs5
      have HL := Lib.hid hL; have HS5 := Lib.hid hs5
      clear s8 hL hs5
      go_wp2_with fail
      exact ⟨⟨k + 1, by omega, by go_num, HL.out.1, HL.out.2.1, HS5.out, HL.out.2.2⟩, by simp [intOf]; omega⟩
    · obtain rfl : k = ps.length := by omega
      rw [List.take_length] at HST
      obtain ⟨F, hF⟩ : ∃ F : Nat → Bool, F = fun x => f x || anyL ps x := ⟨_, rfl⟩
      rw [← hF] at HST
      have HF := Lib.hid hF
      clear hF
      have z0 : wr.cell? ⟨w.heap.size + 1 + 1, 0, none⟩ = some (.int .u64 ((wd (F) 0 : Nat) : Int)) := HST.out.cell 0 _ rfl
      have z1 : wr.cell? ⟨w.heap.size + 1 + 1, 1, none⟩ = some (.int .u64 ((wd (F) 1 : Nat) : Int)) := HST.out.cell 1 _ rfl
      have z2 : wr.cell? ⟨w.heap.size + 1 + 1, 2, none⟩ = some (.int .u64 ((wd (F) 2 : Nat) : Int)) := HST.out.cell 2 _ rfl
      have z3 : wr.cell? ⟨w.heap.size + 1 + 1, 3, none⟩ = some (.int .u64 ((wd (F) 3 : Nat) : Int)) := HST.out.cell 3 _ rfl
      have d0 := (HRS.out).cell 0 _ rfl; have d1 := (HRS.out).cell 1 _ rfl; have d2 := (HRS.out).cell 2 _ rfl; have d3 := (HRS.out).cell 3 _ rfl
      have f0 := (HRS.out).frozen 0; have f1 := (HRS.out).frozen 1; have f2 := (HRS.out).frozen 2; have f3 := (HRS.out).frozen 3
      go_wp2_with fail
      refine bodyPost_ret (v := setOf F) (by simp [results, Tryz.results32, go_sem, d0, d1, d2, d3]; try rfl) rfl ⟨by rw [HF.out]; rfl, ?_⟩
      exact putS_below HB.out (by omega) F
theorem rAny_any (p : Pat) : Wf p → rAnyC p := by
  refine Pat.ind (M := fun p => Wf p → rAnyC p) ?_ ?_ ?_ ?_ p
  · intro f _ w a n c h
    obtain rfl : n = 0 := by
      obtain ⟨a', c', hn⟩ := KAt.slice h
      injection hn with _ hn _
    have := rAny_node 1 f 0 0 [] (by simp) (by simp) w a c h
    rw [show (fun x => f x || anyL [] x) = anyP (.one f) from by funext x; simp [anyL, anyP]] at this
    exact this
  · intro l ih hw w a n c h
    cases hw with | cat _ h1 h2 h3 =>
    obtain rfl : n = l.length := by
      obtain ⟨a', c', hn⟩ := KAt.slice h
      injection hn with _ hn _
      rw [trees_len] at hn; exact hn
    have := rAny_node 2 emp 0 0 l h3 (fun p hp => ih p hp (h1 p hp)) w a c h
    rw [show (fun x => emp x || anyL l x) = anyP (.cat l) from by funext x; simp [emp, anyP]] at this
    exact this
  · intro l ih hw w a n c h
    cases hw with | alt _ h1 h2 h3 =>
    obtain rfl : n = l.length := by
      obtain ⟨a', c', hn⟩ := KAt.slice h
      injection hn with _ hn _
      rw [trees_len] at hn; exact hn
    have := rAny_node 3 emp 0 0 l h3 (fun p hp => ih p hp (h1 p hp)) w a c h
    rw [show (fun x => emp x || anyL l x) = anyP (.alt l) from by funext x; simp [emp, anyP]] at this
    exact this
  · intro mn mx p ih hw w a n c h
    cases hw with | rep _ _ _ h1 h2 h3 h4 =>
    obtain rfl : n = 1 := by
      obtain ⟨a', c', hn⟩ := KAt.slice h
      injection hn with _ hn _
    have := rAny_node 4 emp (mn : Int) (mx : Int) [p] (by simp) (fun q hq => by simp at hq; subst hq; exact ih h1) w a c h
    rw [show (fun x => emp x || anyL [p] x) = anyP (.rep mn mx p) from by funext x; simp [emp, anyL, anyP]] at this
    exact this
end Go.Proofs.YtgjcibhhffkemaaGreatDoor
/- A row that make makes: all cells zero. -/
set_option linter.unusedVariables false
namespace Go.Proofs.YtgjcibhhffkemaaGreatDoor
open Go.RowKit
theorem madeCells_one (z : Value) (n : Nat) : madeCells #[z] n = Array.replicate n z := by
  refine Array.ext (by simp [madeCells]) fun i h1 h2 => ?_
  simp [madeCells, Nat.mod_one]
/-- 'make([]T, n)', T of one cell -/
theorem make_one {P : Program} (t e : TypeId) (z : Value) (bytes : Nat) (ht : P.underlying t = some (.slice e)) (hinfo : (P.info? e).map (fun i => (i.zero, i.size, i.bytes)) = some (some z, 1, bytes)) (hz1 : z.cells = #[z])
    (kl kc : IntKind) (n : Nat) (hb : bytes * n ≤ 281474976710656) (h63 : n ≤ 9223372036854775807) (w : World) :
    (Instr.makeSlice t (.int kl (n : Int)) (.int kc (n : Int))).run P w = .ok (.slice (some ⟨w.heap.size, 0, none⟩) n n) (w.alloc (.cells (Array.replicate n z) e)) := by
  obtain ⟨i, hi, hz, hs, hby⟩ := info_parts hinfo
  have hbb : (i.bytes : Int) * (n : Int) ≤ 281474976710656 := by
    have h : ((bytes * n : Nat) : Int) ≤ 281474976710656 := by omega
    rw [hby]; rwa [Int.natCast_mul] at h
  have h := run_make (P := P) w t e i z ht hi hz kl kc n n (by omega) (Int.le_refl _) hbb (by omega)
  rw [Int.toNat_natCast, hs, Nat.mul_one, hz1, madeCells_one] at h
  exact h
/-- 'make([]T, 0, c)' and 'make([]T, n, c)' -/
theorem make_cap {P : Program} (t e : TypeId) (z : Value) (bytes : Nat) (ht : P.underlying t = some (.slice e)) (hinfo : (P.info? e).map (fun i => (i.zero, i.size, i.bytes)) = some (some z, 1, bytes)) (hz1 : z.cells = #[z])
    (kl kc : IntKind) (n c : Nat) (hn : n ≤ c) (hb : bytes * c ≤ 281474976710656) (h63 : c ≤ 9223372036854775807) (w : World) :
    (Instr.makeSlice t (.int kl (n : Int)) (.int kc (c : Int))).run P w = .ok (.slice (some ⟨w.heap.size, 0, none⟩) n c) (w.alloc (.cells (Array.replicate c z) e)) := by
  obtain ⟨i, hi, hz, hs, hby⟩ := info_parts hinfo
  have hbb : (i.bytes : Int) * (c : Int) ≤ 281474976710656 := by
    have h : ((bytes * c : Nat) : Int) ≤ 281474976710656 := by omega
    rw [hby]; rwa [Int.natCast_mul] at h
  have h := run_make (P := P) w t e i z ht hi hz kl kc n c (by omega) (by omega) hbb (by omega)
  rw [Int.toNat_natCast, Int.toNat_natCast, hs, Nat.mul_one, hz1, madeCells_one] at h
  exact h
end Go.Proofs.YtgjcibhhffkemaaGreatDoor
/- Rows of bools: as functions; Contains and Equal of them. -/
set_option linter.unusedVariables false
set_option linter.unusedSimpArgs false
namespace Go.Proofs.YtgjcibhhffkemaaGreatDoor
open Go.RowKit Bt
/-- n bools -/
def barr (f : Nat → Bool) (n : Nat) : Array Value := (Array.range n).map fun i => .bool (f i)
theorem barr_size (f : Nat → Bool) (n : Nat) : (barr f n).size = n := by unfold barr; simp
theorem barr_get (f : Nat → Bool) (n i : Nat) (h : i < n) : (barr f n)[i]? = some (.bool (f i)) := by unfold barr; simp [h]
def updB (f : Nat → Bool) (i : Nat) (v : Bool) : Nat → Bool := fun j => if j = i then v else f j
theorem barr_set (f : Nat → Bool) (n i : Nat) (v : Bool) : (barr f n).setIfInBounds i (.bool v) = barr (updB f i v) n := by
  refine Array.ext (by simp [barr_size]) fun j h1 h2 => ?_
  have hj : j < n := by rw [barr_size] at h2; exact h2
  have e2 := barr_get (updB f i v) n j hj
  rw [Array.getElem?_eq_getElem h2] at e2
  have e1 := barr_get f n j hj
  rw [Array.getElem_setIfInBounds (by rw [barr_size]; exact hj)]
  rw [Array.getElem?_eq_getElem (by rw [barr_size]; exact hj)] at e1
  injection e1 with e1; injection e2 with e2
  rw [e2]
  unfold updB
  by_cases h : i = j
  · subst h; simp
  · rw [if_neg h, if_neg (fun e => h e.symm)]; exact e1
theorem barr_ext {f g : Nat → Bool} {n : Nat} (h : ∀ i, i < n → f i = g i) : barr f n = barr g n := by
  unfold barr
  refine Array.ext (by simp) fun j h1 h2 => ?_
  simp at h1
  simp [h j h1]
theorem barr_zero (n : Nat) : Array.replicate n (Value.bool false) = barr (fun _ => false) n := by
  refine Array.ext (by simp [barr_size]) fun j h1 h2 => ?_
  have hj : j < n := by rw [barr_size] at h2; exact h2
  have e2 := barr_get (fun _ => false) n j hj
  rw [Array.getElem?_eq_getElem h2] at e2
  injection e2 with e2
  rw [e2]; simp
/-- a row of n bools -/
def BRow (w : World) (v : Value) (n : Nat) (f : Nat → Bool) : Prop := ∃ b, v = .slice (some ⟨b, 0, none⟩) n n ∧ AtG w b 4 (barr f n)
theorem BRow.below {w w' : World} {v : Value} {n : Nat} {f : Nat → Bool} (h : BRow w v n f) (hb : Below w.heap.size w w') : BRow w' v n f := by
  obtain ⟨b, h1, h2⟩ := h; exact ⟨b, h1, h2.below hb⟩
theorem AtG.bool {w : World} {b n : Nat} {f : Nat → Bool} (h : AtG w b 4 (barr f n)) (i : Nat) (hi : i < n) : w.cell? ⟨b, i, none⟩ = some (.bool (f i)) := h.cell i _ (barr_get f n i hi)
theorem AtG.setB {w : World} {b n : Nat} {f : Nat → Bool} (h : AtG w b 4 (barr f n)) (i : Nat) (v : Bool) : AtG (w.setCell ⟨b, i, none⟩ (.bool v)) b 4 (barr (updB f i v) n) := by
  have := h.set i (.bool v)
  rw [← barr_set]; exact this
set_option maxRecDepth 100000 in
theorem indexB_any (b n : Nat) (f : Nat → Bool) (t : Bool) (w : World) (hn : n ≤ 1000000) (h : AtG w b 4 (barr f n)) :
    Calls Tryz.prog 74 #[.slice (some ⟨b, 0, none⟩) n n, .bool t] w fun e w' => w' = w ∧ ∃ r : Int, e = .returned (.int .i64 r) ∧ (0 ≤ r ↔ ∃ i, i < n ∧ f i = t) := by
  have H := Lib.hid h
  have hnI : (n : Int) ≤ 1000000 := by omega
  clear h
  go_enter Tryz.func74, Tryz.ntmps74
  go_wp2_with fail
  go_loopw [8] (fun i wr => ∃ k : Nat, k ≤ n ∧ i = .int .i64 k ∧ wr = w ∧ ∀ j, j < k → f j ≠ t) (fun i _ => n - (intOf i).toNat)
  case atStart => exact ⟨0, Nat.zero_le _, rfl, by first | rfl | trivial, fun j h => absurd h (Nat.not_lt_zero _)⟩
  case round =>
    obtain ⟨k, hk, rfl, hw, hno⟩ := hrel
    subst hw
    have HNO := Lib.hid hno; clear hno
    by_cases hlt : k < n
    · have hc := H.out.bool k hlt
      by_cases hq : f k = t
      · have e1 : (t == f k) = true := by rw [hq]; simp
        have HQ := Lib.hid hq; clear hq
        go_wp2_with fail
        go_returns
        exact ⟨rfl, k, rfl, ⟨fun _ => ⟨k, hlt, HQ.out⟩, fun _ => by omega⟩⟩
      · have e1 : (t == f k) = false := by rw [beq_eq_false_iff_ne]; exact fun e => hq e.symm
        have HQ := Lib.hid hq; clear hq
        go_wp2_with fail
        exact ⟨⟨k + 1, by omega, by go_num, by first | rfl | trivial, fun j hj => by
          rcases Nat.lt_succ_iff_lt_or_eq.1 hj with h1 | rfl
          · exact HNO.out j h1
          · exact HQ.out⟩, by simp [intOf]; omega⟩
    · go_wp2_with fail
      go_returns
      exact ⟨rfl, -1, rfl, ⟨(fun h => by omega), fun ⟨i, hi, hf⟩ => absurd hf (HNO.out i (by omega))⟩⟩
set_option maxRecDepth 100000 in
theorem containsB_any (b n : Nat) (f : Nat → Bool) (t : Bool) (w : World) (hn : n ≤ 1000000) (h : AtG w b 4 (barr f n)) :
    Calls Tryz.prog 52 #[.slice (some ⟨b, 0, none⟩) n n, .bool t] w fun e w' => w' = w ∧ ∃ r : Bool, e = .returned (.bool r) ∧ (r = true ↔ ∃ i, i < n ∧ f i = t) := by
  have HI := Lib.hid (indexB_any b n f t w hn h)
  clear h
  go_enter Tryz.func52, Tryz.ntmps52
  go_wp2_with fail
  refine (HI.out).mono ?_
  rintro e9 w9 ⟨rfl, r, rfl, hr⟩
  have HR := Lib.hid hr; clear hr
  go_wp2_with fail
  go_returns
  exact ⟨rfl, decide (0 ≤ r), rfl, by rw [decide_eq_true_iff]; exact HR.out⟩
set_option maxRecDepth 100000 in
theorem equalB_any (b b' n : Nat) (f g : Nat → Bool) (w : World) (hn : n ≤ 1000000) (h : AtG w b 4 (barr f n)) (h' : AtG w b' 4 (barr g n)) :
    Calls Tryz.prog 53 #[.slice (some ⟨b, 0, none⟩) n n, .slice (some ⟨b', 0, none⟩) n n] w fun e w' => Below w.heap.size w w' ∧ ∃ r : Bool, e = .returned (.bool r) ∧ (r = true ↔ ∀ i, i < n → f i = g i) := by
  have H := Lib.hid h; have H' := Lib.hid h'
  have hnI : (n : Int) ≤ 1000000 := by omega
  clear h h'
  go_enter Tryz.func53, Tryz.ntmps53
  go_wp2_with fail
  go_loopw [13] (fun i wr => ∃ k : Nat, k ≤ n ∧ i = .int .i64 k ∧ Below w.heap.size w wr ∧ ∀ j, j < k → f j = g j) (fun i _ => n - (intOf i).toNat)
  case atStart => exact ⟨0, Nat.zero_le _, rfl, Below.refl _ _, fun j h => absurd h (Nat.not_lt_zero _)⟩
  case round =>
    obtain ⟨k, hk, rfl, hb, hno⟩ := hrel
    have HNO := Lib.hid hno; have HB := Lib.hid hb; clear hno hb
    by_cases hlt : k < n
    · have HLT := Lib.hid hlt
      go_upto_region 6 with (fail)
      obtain ⟨wz, rfl⟩ : ∃ wz : World, wz = wr := ⟨_, rfl⟩
      refine Rg.wp_region_each (by kernel_rfl) (fun w' => Below w.heap.size w w') (fun w1 w2 h hb => h.trans (hb.mono h.size)) (by kernel_rfl) (by kernel_rfl) (HB.out) ?_
      show Rg.Build _ _ _ _ _ 0 [_, _, _, _, _, _, _, _, _] []
      refine Rg.build_cons (m := 1) (r := Rg.eq _) (Rg.one_plain (by rfl) (by (intro ax wx hk Kx hK; have k0 := hk.base 0 _ rfl rfl; have hj := hk.j; clear hk; have c1 := ((H.out.below hj)).bool k HLT.out; have c2 := ((H'.out.below hj)).bool k HLT.out; go_simp; refine hK _ _ ?_ (Below.refl _ _); apply Rg.mk))) ?_ rfl
      refine Rg.build_cons (m := 2) (r := Rg.eq _) (Rg.one_plain (by rfl) (by (intro ax wx hk Kx hK; have k5 := hk.base 5 _ rfl rfl; have hj := hk.j; clear hk; have c1 := ((H.out.below hj)).bool k HLT.out; have c2 := ((H'.out.below hj)).bool k HLT.out; go_simp; refine hK _ _ ?_ (Below.refl _ _); apply Rg.mk))) ?_ rfl
      refine Rg.build_cons (m := 3) (r := Rg.eq _) (Rg.one_plain (by rfl) (by (intro ax wx hk Kx hK; obtain ⟨v16, k16, h16⟩ := hk.dep 0 16 _ rfl rfl rfl; (first | (cases (h16 : v16 = _)) | (obtain ⟨rfl, h16⟩ := h16) | skip); obtain ⟨v17, k17, h17⟩ := hk.dep 1 17 _ rfl rfl rfl; (first | (cases (h17 : v17 = _)) | (obtain ⟨rfl, h17⟩ := h17) | skip); have hj := hk.j; clear hk; have c1 := ((H.out.below hj)).bool k HLT.out; have c2 := ((H'.out.below hj)).bool k HLT.out; go_simp; refine hK _ _ ?_ (Below.refl _ _); apply Rg.mk))) ?_ rfl
      refine Rg.build_cons (m := 4) (r := Rg.eq _) (Rg.one_plain (by rfl) (by (intro ax wx hk Kx hK; obtain ⟨v18, k18, h18⟩ := hk.dep 2 18 _ rfl rfl rfl; (first | (cases (h18 : v18 = _)) | (obtain ⟨rfl, h18⟩ := h18) | skip); have hj := hk.j; clear hk; have c1 := ((H.out.below hj)).bool k HLT.out; have c2 := ((H'.out.below hj)).bool k HLT.out; go_simp; refine hK _ _ ?_ (Below.refl _ _); apply Rg.mk))) ?_ rfl
      refine Rg.build_cons (m := 5) (r := Rg.eq _) (Rg.one_plain (by rfl) (by (intro ax wx hk Kx hK; have k1 := hk.base 1 _ rfl rfl; have hj := hk.j; clear hk; have c1 := ((H.out.below hj)).bool k HLT.out; have c2 := ((H'.out.below hj)).bool k HLT.out; go_simp; refine hK _ _ ?_ (Below.refl _ _); apply Rg.mk))) ?_ rfl
      refine Rg.build_cons (m := 6) (r := Rg.eq _) (Rg.one_plain (by rfl) (by (intro ax wx hk Kx hK; have k5 := hk.base 5 _ rfl rfl; have hj := hk.j; clear hk; have c1 := ((H.out.below hj)).bool k HLT.out; have c2 := ((H'.out.below hj)).bool k HLT.out; go_simp; refine hK _ _ ?_ (Below.refl _ _); apply Rg.mk))) ?_ rfl
      refine Rg.build_cons (m := 7) (r := Rg.eq _) (Rg.one_plain (by rfl) (by (intro ax wx hk Kx hK; obtain ⟨v20, k20, h20⟩ := hk.dep 4 20 _ rfl rfl rfl; (first | (cases (h20 : v20 = _)) | (obtain ⟨rfl, h20⟩ := h20) | skip); obtain ⟨v21, k21, h21⟩ := hk.dep 5 21 _ rfl rfl rfl; (first | (cases (h21 : v21 = _)) | (obtain ⟨rfl, h21⟩ := h21) | skip); have hj := hk.j; clear hk; have c1 := ((H.out.below hj)).bool k HLT.out; have c2 := ((H'.out.below hj)).bool k HLT.out; go_simp; refine hK _ _ ?_ (Below.refl _ _); apply Rg.mk))) ?_ rfl
      refine Rg.build_cons (m := 8) (r := Rg.eq _) (Rg.one_plain (by rfl) (by (intro ax wx hk Kx hK; obtain ⟨v22, k22, h22⟩ := hk.dep 6 22 _ rfl rfl rfl; (first | (cases (h22 : v22 = _)) | (obtain ⟨rfl, h22⟩ := h22) | skip); have hj := hk.j; clear hk; have c1 := ((H.out.below hj)).bool k HLT.out; have c2 := ((H'.out.below hj)).bool k HLT.out; go_simp; refine hK _ _ ?_ (Below.refl _ _); apply Rg.mk))) ?_ rfl
      refine Rg.build_cons (m := 9) (r := Rg.eq _) (Rg.one_plain (by rfl) (by (intro ax wx hk Kx hK; obtain ⟨v19, k19, h19⟩ := hk.dep 3 19 _ rfl rfl rfl; (first | (cases (h19 : v19 = _)) | (obtain ⟨rfl, h19⟩ := h19) | skip); obtain ⟨v23, k23, h23⟩ := hk.dep 7 23 _ rfl rfl rfl; (first | (cases (h23 : v23 = _)) | (obtain ⟨rfl, h23⟩ := h23) | skip); have hj := hk.j; clear hk; have c1 := ((H.out.below hj)).bool k HLT.out; have c2 := ((H'.out.below hj)).bool k HLT.out; go_simp; refine hK _ _ ?_ (Below.refl _ _); apply Rg.mk))) ?_ rfl
      refine Rg.build_end fun wx hj => ?_
      refine Rg.fin_eq rfl ?_
      refine Rg.fin_eq rfl ?_
      refine Rg.fin_eq rfl ?_
      refine Rg.fin_eq rfl ?_
      refine Rg.fin_eq rfl ?_
      refine Rg.fin_eq rfl ?_
      refine Rg.fin_eq rfl ?_
      refine Rg.fin_eq rfl ?_
      refine Rg.fin_eq rfl ?_
      refine Rg.fin_nil ?_
      simp only [List.set_cons_zero, List.set_cons_succ]
      have HJ := Lib.hid hj; clear hj
      go_wp2_with fail
      · rename_i hx
        go_returns
        exact ⟨HJ.out, false, rfl, ⟨(fun h => by cases h), fun h => by rw [h k HLT.out] at hx; simp at hx⟩⟩
      · rename_i hx
        have hq : f k = g k := by simpa using hx
        exact ⟨⟨k + 1, by omega, by go_num, HJ.out, fun j hj => by
          rcases Nat.lt_succ_iff_lt_or_eq.1 hj with h1 | rfl
          · exact HNO.out j h1
          · exact hq⟩, by simp [intOf]; omega⟩
    · go_wp2_with fail
      go_returns
      exact ⟨HB.out, true, rfl, ⟨fun _ j hj => HNO.out j (by omega), fun _ => rfl⟩⟩
end Go.Proofs.YtgjcibhhffkemaaGreatDoor
/- The walk of lang.ends: a byte of a set; the laws of the others. -/
set_option linter.unusedVariables false
set_option linter.unusedSimpArgs false
namespace Go.Proofs.YtgjcibhhffkemaaGreatDoor
open Go.RowKit Bt
/-- the places of a set up to n -/
def InS (n : Nat) (S : Nat → Bool) : Nat → Prop := fun j => j ≤ n ∧ S j = true
def byt (xs : List Int) : Nat → Nat := fun i => (xs.getD i 0).toNat
theorem it_le {R : Nat → Nat → Prop} {n : Nat} (h : ∀ j i, j ≤ n → R j i → i ≤ n) (t : Nat) : ∀ j i, j ≤ n → It R t j i → i ≤ n := by
  induction t with
  | zero => intro j i hj h; rw [It] at h; omega
  | succ t ih => intro j i hj h1; rw [It] at h1; obtain ⟨k, h2, h3⟩ := h1; exact h k i (ih j k hj h2) h3
theorem mt_le (b : Nat → Nat) (n : Nat) (p : Pat) : ∀ j i, j ≤ n → Mt b n p j i → i ≤ n := by
  refine Pat.ind (M := fun p => ∀ j i, j ≤ n → Mt b n p j i → i ≤ n) ?_ ?_ ?_ ?_ p
  · intro f j i hj h; rw [Mt] at h; omega
  · intro l ih j i hj h
    rw [Mt] at h
    induction l generalizing j with
    | nil => rw [MtC] at h; omega
    | cons p l ih2 =>
      rw [MtC] at h
      obtain ⟨k, h1, h2⟩ := h
      exact ih2 (fun q hq => ih q (List.mem_cons_of_mem _ hq)) k (ih p (List.mem_cons_self ..) j k hj h1) h2
  · intro l ih j i hj h
    rw [Mt] at h
    induction l with
    | nil => rw [MtA] at h; exact h.elim
    | cons p l ih2 =>
      rw [MtA] at h
      rcases h with h | h
      · exact ih p (List.mem_cons_self ..) j i hj h
      · exact ih2 (fun q hq => ih q (List.mem_cons_of_mem _ hq)) h
  · intro mn mx p ih j i hj h
    rw [Mt] at h
    obtain ⟨t, _, _, h⟩ := h
    exact it_le (fun j i hj h => ih j i hj h) t j i hj h
theorem mtC_snoc (b : Nat → Nat) (n : Nat) (l : List Pat) (k : Nat) (hk : k < l.length) (S : Nat → Prop) (i : Nat) : img (MtC b n (l.take (k + 1))) S i ↔ img (Mt b n l[k]) (img (MtC b n (l.take k)) S) i := by
  have key : ∀ (a : List Pat) (p : Pat) (S : Nat → Prop) (i : Nat), img (MtC b n (a ++ [p])) S i ↔ img (Mt b n p) (img (MtC b n a) S) i := by
    intro a p
    induction a with
    | nil =>
      intro S i
      rw [List.nil_append, mt_cat_cons]
      exact (mt_cat_nil b n _ i).trans (img_congr (fun j => (mt_cat_nil b n S j).symm) i)
    | cons q a ih =>
      intro S i
      rw [List.cons_append, mt_cat_cons, ih]
      exact img_congr (fun j => (mt_cat_cons b n q a S j).symm) i
  rw [List.take_succ_eq_append_getElem hk]
  exact key _ _ _ _
theorem mtA_snoc (b : Nat → Nat) (n : Nat) (l : List Pat) (k : Nat) (hk : k < l.length) (S : Nat → Prop) (i : Nat) : img (MtA b n (l.take (k + 1))) S i ↔ img (MtA b n (l.take k)) S i ∨ img (Mt b n l[k]) S i := by
  have key : ∀ (a : List Pat) (p : Pat), img (MtA b n (a ++ [p])) S i ↔ img (MtA b n a) S i ∨ img (Mt b n p) S i := by
    intro a p
    induction a with
    | nil =>
      rw [List.nil_append, mt_alt_cons]
      have hn : ¬ img (MtA b n []) S i := fun ⟨j, _, h⟩ => by rw [MtA] at h; exact h
      exact ⟨fun h => h.elim .inr (fun h => absurd h hn), fun h => h.elim (fun h => absurd h hn) .inl⟩
    | cons q a ih =>
      rw [List.cons_append, mt_alt_cons, ih, mt_alt_cons, or_assoc]
  rw [List.take_succ_eq_append_getElem hk]
  exact key _ _
/-- what ends does with a pattern -/
def EndsC (p : Pat) : Prop := ∀ (w : World) (a : Option Addr) (m c : Nat) (wv : Value) (xs : List Int) (bf : Nat) (S : Nat → Bool), NAt w p.tree (.slice a m c) → RdB w wv xs → xs.length ≤ 1000 → AtG w bf 4 (barr S (xs.length + 1)) →
  Calls Tryz.prog 34 #[nodeV p.tree (.slice a m c), wv, .slice (some ⟨bf, 0, none⟩) (xs.length + 1) (xs.length + 1)] w fun e w' => Below w.heap.size w w' ∧ ∃ b g, e = .returned (.slice (some ⟨b, 0, none⟩) (xs.length + 1) (xs.length + 1)) ∧ AtG w' b 4 (barr g (xs.length + 1)) ∧ (b = bf ∨ w.heap.size ≤ b) ∧ ∀ i, i ≤ xs.length → (g i = true ↔ img (Mt (byt xs) xs.length p) (InS xs.length S) i)
theorem rdB_slice {w : World} {v : Value} {xs : List Int} (h : RdB w v xs) : ∃ A c, v = .slice A xs.length c := by
  rcases h with ⟨rfl, a, c, rfl⟩ | ⟨b, off, cap, rfl, _⟩
  · exact ⟨a, c, rfl⟩
  · exact ⟨_, cap, rfl⟩
theorem rdB_at {w : World} {A : Option Addr} {n c : Nat} {xs : List Int} (h : RdB w (.slice A n c) xs) (j : Nat) (hj : j < xs.length) : ∃ b off, A = some ⟨b, off, none⟩ ∧ xs.length ≤ c ∧ w.cell? ⟨b, off + j, none⟩ = some (.int .u8 (xs.getD j 0)) ∧ 0 ≤ xs.getD j 0 ∧ xs.getD j 0 ≤ 255 := by
  rcases h with ⟨rfl, _⟩ | ⟨b, off, cap, h1, h2, h3, h4, h5⟩
  · simp at hj
  · injection h1 with e1 e2 e3
    subst e1; subst e3
    exact ⟨b, off, rfl, h2, h4 j hj, h5 j⟩
theorem infoBool : (Tryz.prog.info? 4).map (fun i => (i.zero, i.size, i.bytes)) = some (some (.bool false), 1, 1) := by kernel_rfl
set_option maxRecDepth 100000 in
set_option maxHeartbeats 1600000 in
theorem ends_one (f : Nat → Bool) : EndsC (.one f) := by
  intro w a m c wv xs bf S hn hx hl hfa
  obtain ⟨A, wc, rfl⟩ := rdB_slice hx
  have HX := Lib.hid hx; have HF := Lib.hid hfa
  have hnI : (xs.length : Int) ≤ 1000 := by omega
  have hmk := make_one (P := Tryz.prog) 84 4 (.bool false) 1 Tryz.underlying84 infoBool rfl .i64 .i64 (xs.length + 1) (by omega) (by omega)
  rw [show ((xs.length + 1 : Nat) : Int) = (xs.length : Int) + 1 from by omega, barr_zero] at hmk
  obtain ⟨w0, hw0⟩ : ∃ w0 : World, w0 = (w.alloc (.cells (nodeC 1 f 0 0 (.slice a m c)) 41)).alloc (.cells (barr (fun _ => false) (xs.length + 1)) 4) := ⟨_, rfl⟩
  have HA : Hid (AtG w0 w.heap.size 41 (nodeC 1 f 0 0 (.slice a m c))) := Lib.hid (by rw [hw0]; exact (AtG.new _ _ _).alloc _)
  have HO : Hid (AtG w0 (w.heap.size + 1) 4 (barr (fun _ => false) (xs.length + 1))) := Lib.hid (by
    rw [hw0]
    have := AtG.new (w.alloc (.cells (nodeC 1 f 0 0 (.slice a m c)) 41)) 4 (barr (fun _ => false) (xs.length + 1))
    simpa using this)
  have HB0 : Hid (Below w.heap.size w w0) := Lib.hid (by rw [hw0]; go_grown)
  have hw0' : (w.alloc (.cells #[.int .i64 1, .int .u64 ((wd f 0 : Nat) : Int), .int .u64 ((wd f 1 : Nat) : Int), .int .u64 ((wd f 2 : Nat) : Int), .int .u64 ((wd f 3 : Nat) : Int), .int .i64 0, .int .i64 0, .slice a m c] 41)).alloc (.cells (barr (fun _ => false) (xs.length + 1)) 4) = w0 := hw0.symm
  have m0 : w0.cell? ⟨w.heap.size, 0, none⟩ = some (.int .i64 1) := HA.out.cell 0 _ rfl
  have HLF := Lib.hid hfa.lt
  clear hn hx hfa hw0
  show Calls Tryz.prog 34 #[.agg #[.int .i64 1, .int .u64 ((wd f 0 : Nat) : Int), .int .u64 ((wd f 1 : Nat) : Int), .int .u64 ((wd f 2 : Nat) : Int), .int .u64 ((wd f 3 : Nat) : Int), .int .i64 0, .int .i64 0, .slice a m c], _, _] w _
  go_enter Tryz.func34, Tryz.ntmps34
  go_wp2_with fail
  go_loopw [31] (fun i wr => ∃ k : Nat, k ≤ xs.length ∧ i = .int .i64 k ∧ AtG wr w.heap.size 41 (nodeC 1 f 0 0 (.slice a m c)) ∧ Below w.heap.size w wr ∧ ∃ g, AtG wr (w.heap.size + 1) 4 (barr g (xs.length + 1)) ∧ g 0 = false ∧ (∀ j, j < k → g (j + 1) = (S j && f (byt xs j))) ∧ ∀ j, k ≤ j → g (j + 1) = false) (fun i _ => xs.length - (intOf i).toNat)
  case atStart => exact ⟨0, Nat.zero_le _, rfl, HA.out, HB0.out, _, HO.out, rfl, fun j h => absurd h (Nat.not_lt_zero _), fun _ _ => rfl⟩
  case round =>
    clear hw0' m0 HA HO HB0 hmk
    obtain ⟨k, hk, rfl, ha, hb, g, hg, hg0, hg1, hg2⟩ := hrel
    by_cases hlt : k < xs.length
    · obtain ⟨bw, ow, rfl, hcap, hcell, hc0, hc1⟩ := rdB_at HX.out k hlt
      have hcw : wr.cell? ⟨bw, ow + k, none⟩ = some (.int .u8 (xs.getD k 0)) := (hb.cell (p := ⟨bw, ow + k, none⟩) (World.block_lt_of_cell? w _ hcell)).trans hcell
      have hcf : wr.cell? ⟨bf, k, none⟩ = some (.bool (S k)) := (HF.out.below hb).bool k (by omega)
      have HH := Lib.hid (has_any f (xs.getD k 0) wr hc0 hc1)
      have hby : byt xs k = (xs.getD k 0).toNat := rfl
      have HG1 := Lib.hid hg1; have HG2 := Lib.hid hg2; have HG0 := Lib.hid hg0; have HB := Lib.hid hb; have HA := Lib.hid ha; have HG := Lib.hid hg
      have hws := hb.size
      have hsz : w.heap.size + 1 < wr.heap.size := hg.lt
      have n1 : wr.cell? ⟨w.heap.size, 1, none⟩ = some (.int .u64 ((wd f 0 : Nat) : Int)) := ha.cell 1 _ rfl
      have n2 : wr.cell? ⟨w.heap.size, 2, none⟩ = some (.int .u64 ((wd f 1 : Nat) : Int)) := ha.cell 2 _ rfl
      have n3 : wr.cell? ⟨w.heap.size, 3, none⟩ = some (.int .u64 ((wd f 2 : Nat) : Int)) := ha.cell 3 _ rfl
      have n4 : wr.cell? ⟨w.heap.size, 4, none⟩ = some (.int .u64 ((wd f 3 : Nat) : Int)) := ha.cell 4 _ rfl
      have o1 := hg.frozen (k + 1)
      have oc := hg.bool (k + 1) (by omega)
      generalize xs.getD k 0 = x at *
      clear hg1 hg2 hg0 hb ha hg hcell
      cases hS : S k with
      | false =>
        rw [hS] at hcf
        go_wp2_with fail
        refine ⟨⟨k + 1, by omega, by go_num, HA.out.far (p := ⟨w.heap.size + 1, k + 1, none⟩) (by show w.heap.size ≠ w.heap.size + 1; omega) _, HB.out.setCell (by simp) _, updB g (k + 1) false, HG.out.setB (k + 1) false, ?_, ?_, ?_⟩, by simp [intOf]; omega⟩
        · unfold updB; rw [if_neg (by omega)]; exact HG0.out
        · intro j hj
          unfold updB
          by_cases e : j = k
          · subst e; rw [if_pos rfl, hS]; rfl
          · rw [if_neg (by omega)]; exact HG1.out j (by omega)
        · intro j hj
          unfold updB
          rw [if_neg (by omega)]; exact HG2.out j (by omega)
      | true =>
        rw [hS] at hcf
        unfold setOf at HH
        go_wp2_with fail
        refine (HH.out).mono ?_
        rintro e9 w9 ⟨rfl, hb9⟩
        have HA9 := Lib.hid (HA.out.below hb9); have HB9 := Lib.hid (HB.out.trans (hb9.mono HB.out.size)); have HG9 := Lib.hid (HG.out.below hb9)
        have o2 := HG9.out.frozen (k + 1)
        have oc2 := HG9.out.bool (k + 1) (by omega)
        clear hb9
        generalize hfx : f x.toNat = fx at *
        go_wp2_with fail
        refine ⟨⟨k + 1, by omega, by go_num, HA9.out.far (p := ⟨w.heap.size + 1, k + 1, none⟩) (by show w.heap.size ≠ w.heap.size + 1; omega) _, HB9.out.setCell (by simp) _, updB g (k + 1) fx, HG9.out.setB (k + 1) fx, ?_, ?_, ?_⟩, by simp [intOf]; omega⟩
        · unfold updB; rw [if_neg (by omega)]; exact HG0.out
        · intro j hj
          unfold updB
          by_cases e : j = k
          · subst e; rw [if_pos rfl, hS, hby, hfx]; rfl
          · rw [if_neg (by omega)]; exact HG1.out j (by omega)
        · intro j hj
          unfold updB
          rw [if_neg (by omega)]; exact HG2.out j (by omega)
    · obtain rfl : k = xs.length := by omega
      have HG1 := Lib.hid hg1; have HG0 := Lib.hid hg0; have HB := Lib.hid hb; have HG := Lib.hid hg
      clear hg1 hg2 hg0 hb ha hg
      go_wp2_with fail
      go_returns
      refine ⟨HB.out, w.heap.size + 1, g, rfl, HG.out, .inr (by omega), fun i hi => ?_⟩
      constructor
      · intro h
        cases i with
        | zero => rw [HG0.out] at h; cases h
        | succ j =>
          rw [HG1.out j (by omega), Bool.and_eq_true] at h
          exact ⟨j, ⟨by omega, h.1⟩, by rw [Mt]; exact ⟨rfl, by omega, h.2⟩⟩
      · rintro ⟨j, ⟨hj, hSj⟩, hm⟩
        rw [Mt] at hm
        obtain ⟨rfl, hj2, hfj⟩ := hm
        rw [HG1.out j hj2, hSj, hfj]; rfl
end Go.Proofs.YtgjcibhhffkemaaGreatDoor
/- The walk of lang.ends: one behind the other; one of them. -/
set_option linter.unusedVariables false
set_option linter.unusedSimpArgs false
namespace Go.Proofs.YtgjcibhhffkemaaGreatDoor
open Go.RowKit Bt
theorem img_le (b : Nat → Nat) (n : Nat) (l : List Pat) (S : Nat → Bool) (k i : Nat) (h : img (MtC b n (l.take k)) (InS n S) i) : i ≤ n := by
  obtain ⟨j, hj, h2⟩ := h
  have h3 : Mt b n (.cat (l.take k)) j i := by rw [Mt]; exact h2
  exact mt_le b n _ j i hj.1 h3
theorem inS_iff {n : Nat} {g : Nat → Bool} {Q : Nat → Prop} (h : ∀ i, i ≤ n → (g i = true ↔ Q i)) (hQ : ∀ i, Q i → i ≤ n) (i : Nat) : InS n g i ↔ Q i :=
  ⟨fun ⟨h1, h2⟩ => (h i h1).1 h2, fun h1 => ⟨hQ i h1, (h i (hQ i h1)).2 h1⟩⟩
set_option maxRecDepth 100000 in
set_option maxHeartbeats 1600000 in
theorem ends_cat (l : List Pat) (hl2 : l.length ≤ 1000) (ih : ∀ p ∈ l, EndsC p) : EndsC (.cat l) := by
  intro w a m c wv xs bf S hn hx hl hfa
  obtain rfl : m = l.length := by
    obtain ⟨a', c', hh⟩ := KAt.slice hn
    injection hh with _ hh _
    rw [trees_len] at hh; exact hh
  obtain ⟨A, wc, rfl⟩ := rdB_slice hx
  have HX := Lib.hid hx; have HF := Lib.hid hfa; have HN := Lib.hid hn
  have hnI : (xs.length : Int) ≤ 1000 := by omega
  have hlI : (l.length : Int) ≤ 1000 := by omega
  have hmk := make_one (P := Tryz.prog) 84 4 (.bool false) 1 Tryz.underlying84 infoBool rfl .i64 .i64 (xs.length + 1) (by omega) (by omega)
  rw [show ((xs.length + 1 : Nat) : Int) = (xs.length : Int) + 1 from by omega, barr_zero] at hmk
  obtain ⟨w0, hw0⟩ : ∃ w0 : World, w0 = (w.alloc (.cells (nodeC 2 emp 0 0 (.slice a l.length c)) 41)).alloc (.cells (barr (fun _ => false) (xs.length + 1)) 4) := ⟨_, rfl⟩
  have HA : Hid (AtG w0 w.heap.size 41 (nodeC 2 emp 0 0 (.slice a l.length c))) := Lib.hid (by rw [hw0]; exact (AtG.new _ _ _).alloc _)
  have HO : Hid (AtG w0 (w.heap.size + 1) 4 (barr (fun _ => false) (xs.length + 1))) := Lib.hid (by
    rw [hw0]
    have := AtG.new (w.alloc (.cells (nodeC 2 emp 0 0 (.slice a l.length c)) 41)) 4 (barr (fun _ => false) (xs.length + 1))
    simpa using this)
  have HB0 : Hid (Below w.heap.size w w0) := Lib.hid (by rw [hw0]; go_grown)
  have hw0' : (w.alloc (.cells #[.int .i64 2, .int .u64 ((wd emp 0 : Nat) : Int), .int .u64 ((wd emp 1 : Nat) : Int), .int .u64 ((wd emp 2 : Nat) : Int), .int .u64 ((wd emp 3 : Nat) : Int), .int .i64 0, .int .i64 0, .slice a l.length c] 41)).alloc (.cells (barr (fun _ => false) (xs.length + 1)) 4) = w0 := hw0.symm
  have m0 : w0.cell? ⟨w.heap.size, 0, none⟩ = some (.int .i64 2) := HA.out.cell 0 _ rfl
  have m7 : w0.cell? ⟨w.heap.size, 7, none⟩ = some (.slice a l.length c) := HA.out.cell 7 _ rfl
  have HLF := Lib.hid hfa.lt
  clear hn hx hfa hw0
  show Calls Tryz.prog 34 #[.agg #[.int .i64 2, .int .u64 ((wd emp 0 : Nat) : Int), .int .u64 ((wd emp 1 : Nat) : Int), .int .u64 ((wd emp 2 : Nat) : Int), .int .u64 ((wd emp 3 : Nat) : Int), .int .i64 0, .int .i64 0, .slice a l.length c], _, _] w _
  go_enter Tryz.func34, Tryz.ntmps34
  go_wp2_with fail
  go_loopw [7, 57] (fun t7 i wr => ∃ k : Nat, k ≤ l.length ∧ i = .int .i64 k ∧ Below w.heap.size w wr ∧ ∃ bo g, t7 = .slice (some ⟨bo, 0, none⟩) (xs.length + 1) (xs.length + 1) ∧ AtG wr bo 4 (barr g (xs.length + 1)) ∧ (bo = bf ∨ w.heap.size ≤ bo) ∧ ∀ i, i ≤ xs.length → (g i = true ↔ img (MtC (byt xs) xs.length (l.take k)) (InS xs.length S) i)) (fun _ i _ => l.length - (intOf i).toNat)
  case atStart => exact ⟨0, Nat.zero_le _, rfl, HB0.out, bf, S, rfl, HF.out.below ((HB0.out).mono (by omega)), .inl rfl, fun i hi => by
    rw [List.take_zero]
    exact ⟨fun h => (mt_cat_nil _ _ _ _).2 ⟨hi, h⟩, fun h => ((mt_cat_nil _ _ _ _).1 h).2⟩⟩
  case round =>
    clear hw0' m0 m7 HA HO HB0 hmk
    obtain ⟨k, hk, rfl, hb, bo, g, rfl, hg, hbo, hgi⟩ := hrel
    have HB := Lib.hid hb; have HG := Lib.hid hg; have HBO := Lib.hid hbo; have HGI := Lib.hid hgi
    clear hb hg hbo hgi
    by_cases hlt : k < l.length
    · obtain ⟨b, off, cap, heq, hcap, op', f', mn', mx', kids', ka, kc, ht, hc8, hkn⟩ := kid_at HN.out (trees_get hlt)
      injection heq with e1 e2 e3
      subst e1; subst e3
      clear e2
      rw [trees_len] at hcap
      have hI := ih l[k] (List.getElem_mem hlt)
      unfold EndsC at hI
      rw [ht] at hI hkn
      have hI2 := fun w bf S h1 h2 h3 => hI w ka kids'.length kc (.slice A xs.length wc) xs bf S h1 h2 hl h3
      unfold nodeV at hI2
      have HI := Lib.hid hI2; have HKN := Lib.hid hkn
      obtain ⟨kn, hkl⟩ : ∃ kn, kn = kids'.length := ⟨_, rfl⟩
      rw [← hkl] at HKN HI hc8
      obtain ⟨c0, c1, c2, c3, c4, c5, c6, c7⟩ := Cell8.below hc8 HB.out
      clear hI hI2 hkn hkl ht hc8
      go_wp2_with fail
      refine (HI.out _ bo g (NAt.below HKN.out (HB.out.alloc HB.out.size (.cells (nodeC op' f' mn' mx' (.slice ka kn kc)) 41))) (rdB_below HX.out (HB.out.alloc HB.out.size _)) (HG.out.alloc _)).mono ?_
      rintro e9 w9 ⟨hb9, b9, g9, rfl, hg9, hbo9, hgi9⟩
      have HB9 := Lib.hid ((HB.out.alloc HB.out.size (.cells (nodeC op' f' mn' mx' (.slice ka kn kc)) 41)).trans (hb9.mono (by have := HB.out.size; simp; omega)))
      have HG9 := Lib.hid hg9
      have HBO9 : Hid (b9 = bf ∨ w.heap.size ≤ b9) := Lib.hid (by
        rcases hbo9 with h | h
        · rw [h]; exact HBO.out
        · have := HB.out.size; simp at h; omega)
      have HGI9 := Lib.hid hgi9
      clear hb9 hg9 hbo9 hgi9
      go_wp2_with fail
      exact ⟨⟨k + 1, by omega, by go_num, HB9.out, b9, g9, rfl, HG9.out, HBO9.out, fun i hi => (HGI9.out i hi).trans ((img_congr (inS_iff HGI.out (img_le _ _ _ _ _)) i).trans (mtC_snoc _ _ l k hlt _ i).symm)⟩, by simp [intOf]; omega⟩
    · obtain rfl : k = l.length := by omega
      rw [List.take_length] at HGI
      go_wp2_with fail
      go_returns
      exact ⟨HB.out, bo, g, rfl, HG.out, HBO.out, HGI.out⟩
set_option maxRecDepth 100000 in
set_option maxHeartbeats 1600000 in
theorem ends_alt (l : List Pat) (hl2 : l.length ≤ 1000) (ih : ∀ p ∈ l, EndsC p) : EndsC (.alt l) := by
  intro w a m c wv xs bf S hn hx hl hfa
  obtain rfl : m = l.length := by
    obtain ⟨a', c', hh⟩ := KAt.slice hn
    injection hh with _ hh _
    rw [trees_len] at hh; exact hh
  obtain ⟨A, wc, rfl⟩ := rdB_slice hx
  have HX := Lib.hid hx; have HF := Lib.hid hfa; have HN := Lib.hid hn
  have hnI : (xs.length : Int) ≤ 1000 := by omega
  have hlI : (l.length : Int) ≤ 1000 := by omega
  have hmk := make_one (P := Tryz.prog) 84 4 (.bool false) 1 Tryz.underlying84 infoBool rfl .i64 .i64 (xs.length + 1) (by omega) (by omega)
  rw [show ((xs.length + 1 : Nat) : Int) = (xs.length : Int) + 1 from by omega, barr_zero] at hmk
  obtain ⟨w0, hw0⟩ : ∃ w0 : World, w0 = (w.alloc (.cells (nodeC 3 emp 0 0 (.slice a l.length c)) 41)).alloc (.cells (barr (fun _ => false) (xs.length + 1)) 4) := ⟨_, rfl⟩
  have HA : Hid (AtG w0 w.heap.size 41 (nodeC 3 emp 0 0 (.slice a l.length c))) := Lib.hid (by rw [hw0]; exact (AtG.new _ _ _).alloc _)
  have HO : Hid (AtG w0 (w.heap.size + 1) 4 (barr (fun _ => false) (xs.length + 1))) := Lib.hid (by
    rw [hw0]
    have := AtG.new (w.alloc (.cells (nodeC 3 emp 0 0 (.slice a l.length c)) 41)) 4 (barr (fun _ => false) (xs.length + 1))
    simpa using this)
  have HB0 : Hid (Below w.heap.size w w0) := Lib.hid (by rw [hw0]; go_grown)
  have hw0' : (w.alloc (.cells #[.int .i64 3, .int .u64 ((wd emp 0 : Nat) : Int), .int .u64 ((wd emp 1 : Nat) : Int), .int .u64 ((wd emp 2 : Nat) : Int), .int .u64 ((wd emp 3 : Nat) : Int), .int .i64 0, .int .i64 0, .slice a l.length c] 41)).alloc (.cells (barr (fun _ => false) (xs.length + 1)) 4) = w0 := hw0.symm
  have m0 : w0.cell? ⟨w.heap.size, 0, none⟩ = some (.int .i64 3) := HA.out.cell 0 _ rfl
  have m7 : w0.cell? ⟨w.heap.size, 7, none⟩ = some (.slice a l.length c) := HA.out.cell 7 _ rfl
  have HLF := Lib.hid hfa.lt
  clear hn hx hfa hw0
  show Calls Tryz.prog 34 #[.agg #[.int .i64 3, .int .u64 ((wd emp 0 : Nat) : Int), .int .u64 ((wd emp 1 : Nat) : Int), .int .u64 ((wd emp 2 : Nat) : Int), .int .u64 ((wd emp 3 : Nat) : Int), .int .i64 0, .int .i64 0, .slice a l.length c], _, _] w _
  go_enter Tryz.func34, Tryz.ntmps34
  go_wp2_with fail
  go_loopw [71] (fun i wr => ∃ k : Nat, k ≤ l.length ∧ i = .int .i64 k ∧ Below w.heap.size w wr ∧ ∃ g, AtG wr (w.heap.size + 1) 4 (barr g (xs.length + 1)) ∧ ∀ i, i ≤ xs.length → (g i = true ↔ img (MtA (byt xs) xs.length (l.take k)) (InS xs.length S) i)) (fun i _ => l.length - (intOf i).toNat)
  case atStart => exact ⟨0, Nat.zero_le _, rfl, HB0.out, _, HO.out, fun i hi => by
    rw [List.take_zero]
    exact ⟨(fun h => by cases h), fun ⟨j, _, h⟩ => by rw [MtA] at h; exact h.elim⟩⟩
  case round =>
    clear hw0' m0 m7 HA HO HB0 hmk
    obtain ⟨k, hk, rfl, hb, g, hg, hgi⟩ := hrel
    have HB := Lib.hid hb; have HG := Lib.hid hg; have HGI := Lib.hid hgi
    have hsz : w.heap.size + 1 < wr.heap.size := hg.lt
    have HSZ := Lib.hid hsz
    clear hb hg hgi hsz
    by_cases hlt : k < l.length
    · obtain ⟨b, off, cap, heq, hcap, op', f', mn', mx', kids', ka, kc, ht, hc8, hkn⟩ := kid_at HN.out (trees_get hlt)
      injection heq with e1 e2 e3
      subst e1; subst e3
      clear e2
      rw [trees_len] at hcap
      have hI := ih l[k] (List.getElem_mem hlt)
      unfold EndsC at hI
      rw [ht] at hI hkn
      have hI2 := fun w bf S h1 h2 h3 => hI w ka kids'.length kc (.slice A xs.length wc) xs bf S h1 h2 hl h3
      unfold nodeV at hI2
      have HI := Lib.hid hI2; have HKN := Lib.hid hkn
      obtain ⟨kn, hkl⟩ : ∃ kn, kn = kids'.length := ⟨_, rfl⟩
      rw [← hkl] at HKN HI hc8
      obtain ⟨c0, c1, c2, c3, c4, c5, c6, c7⟩ := Cell8.below hc8 HB.out
      clear hI hI2 hkn hkl ht hc8
      go_wp2_with fail
      refine (HI.out _ bf S (NAt.below HKN.out (HB.out.alloc HB.out.size (.cells (nodeC op' f' mn' mx' (.slice ka kn kc)) 41))) (rdB_below HX.out (HB.out.alloc HB.out.size _)) (HF.out.below (HB.out.alloc HB.out.size _))).mono ?_
      rintro e9 w9 ⟨hb9, b9, g9, rfl, hg9, hbo9, hgi9⟩
      have HB9 := Lib.hid ((HB.out.alloc HB.out.size (.cells (nodeC op' f' mn' mx' (.slice ka kn kc)) 41)).trans (hb9.mono (by have := HB.out.size; simp; omega)))
      have HR9 := Lib.hid hg9
      have HO9 := Lib.hid ((HG.out.alloc (.cells (nodeC op' f' mn' mx' (.slice ka kn kc)) 41)).below hb9)
      have HNE : Hid (b9 ≠ w.heap.size + 1) := Lib.hid (by
        have := HLF.out; have := HSZ.out
        rcases hbo9 with h | h
        · omega
        · simp at h; omega)
      have HGI9 := Lib.hid hgi9
      clear hb9 hg9 hbo9 hgi9 c0 c1 c2 c3 c4 c5 c6 c7
      go_wp2_with fail
      go_loopw [80] (fun i wq => ∃ q : Nat, q ≤ xs.length + 1 ∧ i = .int .i64 q ∧ Below w.heap.size w wq ∧ AtG wq b9 4 (barr g9 (xs.length + 1)) ∧ ∃ h, AtG wq (w.heap.size + 1) 4 (barr h (xs.length + 1)) ∧ (∀ j, j < q → h j = (g j || g9 j)) ∧ ∀ j, q ≤ j → h j = g j) (fun i _ => xs.length + 1 - (intOf i).toNat)
      case atStart => exact ⟨0, Nat.zero_le _, rfl, HB9.out, HR9.out, g, HO9.out, fun j h => absurd h (Nat.not_lt_zero _), fun _ _ => rfl⟩
      case round =>
        clear HB9 HR9 HO9
        obtain ⟨q, hq, rfl, hb, hr, h, hh, h1, h2⟩ := hrel
        have HBq := Lib.hid hb; have HRq := Lib.hid hr; have HHq := Lib.hid hh; have H1 := Lib.hid h1; have H2 := Lib.hid h2
        clear hb hr hh h1 h2
        by_cases hltq : q < xs.length + 1
        · have hqI : (q : Int) < (xs.length : Int) + 1 := by omega
          have r1 := HRq.out.bool q hltq
          have o1 := HHq.out.bool q hltq
          have y1 := HHq.out.frozen q
          have hh2 := H2.out q (Nat.le_refl _)
          cases hgq : h q with
          | true =>
            rw [hgq] at o1
            go_wp2_with fail
            refine ⟨⟨q + 1, by omega, by go_num, HBq.out.setCell (by simp) _, HRq.out.far (p := ⟨w.heap.size + 1, q, none⟩) HNE.out _, updB h q true, HHq.out.setB q true, ?_, ?_⟩, by simp [intOf]; omega⟩
            · intro j hj
              unfold updB
              by_cases e : j = q
              · subst e; rw [if_pos rfl, ← hh2, hgq]; rfl
              · rw [if_neg e]; exact H1.out j (by omega)
            · intro j hj
              unfold updB
              rw [if_neg (by omega)]; exact H2.out j (by omega)
          | false =>
            rw [hgq] at o1
            go_wp2_with fail
            refine ⟨⟨q + 1, by omega, by go_num, HBq.out.setCell (by simp) _, HRq.out.far (p := ⟨w.heap.size + 1, q, none⟩) HNE.out _, updB h q (g9 q), HHq.out.setB q (g9 q), ?_, ?_⟩, by simp [intOf]; omega⟩
            · intro j hj
              unfold updB
              by_cases e : j = q
              · subst e; rw [if_pos rfl, ← hh2, hgq]; rfl
              · rw [if_neg e]; exact H1.out j (by omega)
            · intro j hj
              unfold updB
              rw [if_neg (by omega)]; exact H2.out j (by omega)
        · obtain rfl : q = xs.length + 1 := by omega
          go_wp2_with fail
          exact ⟨⟨k + 1, by omega, by go_num, HBq.out, h, HHq.out, fun i hi => by
            rw [H1.out i (by omega), Bool.or_eq_true, mtA_snoc _ _ l k hlt]
            exact or_congr (HGI.out i hi) (HGI9.out i hi)⟩, by simp [intOf]; omega⟩
    · obtain rfl : k = l.length := by omega
      rw [List.take_length] at HGI
      go_wp2_with fail
      go_returns
      exact ⟨HB.out, w.heap.size + 1, g, rfl, HG.out, .inr (by omega), HGI.out⟩
end Go.Proofs.YtgjcibhhffkemaaGreatDoor
/- The walk of lang.ends: again and again. -/
set_option linter.unusedVariables false
set_option linter.unusedSimpArgs false
namespace Go.Proofs.YtgjcibhhffkemaaGreatDoor
open Go.RowKit Bt
theorem img_none {R : Nat → Nat → Prop} {S : Nat → Prop} (h : ∀ j, ¬ S j) (i : Nat) : ¬ img R S i := fun ⟨j, hj, _⟩ => h j hj
theorem imgN_le (b : Nat → Nat) (n : Nat) (p : Pat) (S : Nat → Bool) (t : Nat) : ∀ i, imgN (Mt b n p) (InS n S) t i → i ≤ n := by
  induction t with
  | zero => intro i h; exact h.1
  | succ t ih => rintro i ⟨j, h1, h2⟩; exact mt_le b n p j i (ih j h1) h2
set_option maxRecDepth 100000 in
set_option maxHeartbeats 8000000 in
theorem ends_rep (mn mx : Nat) (p : Pat) (h1 : mn ≤ mx) (h2 : mx ≤ 1000) (ih : EndsC p) : EndsC (.rep mn mx p) := by
  intro w a m c wv xs bf S hn hx hl hfa
  obtain rfl : m = 1 := by
    obtain ⟨a', c', hh⟩ := KAt.slice hn
    injection hh with _ hh _
  obtain ⟨A, wc, rfl⟩ := rdB_slice hx
  have HX := Lib.hid hx; have HF := Lib.hid hfa; have HN := Lib.hid hn
  have hnI : (xs.length : Int) ≤ 1000 := by omega
  have hmk := make_one (P := Tryz.prog) 84 4 (.bool false) 1 Tryz.underlying84 infoBool rfl .i64 .i64 (xs.length + 1) (by omega) (by omega)
  rw [show ((xs.length + 1 : Nat) : Int) = (xs.length : Int) + 1 from by omega, barr_zero] at hmk
  obtain ⟨b, off, cap, heq, hcap, op', f', mn', mx', kids', ka, kc, ht, hc8, hkn⟩ := kid_at (j := 0) (t := p.tree) hn rfl
  injection heq with e1 e2 e3
  subst e1; subst e3
  clear e2
  unfold EndsC at ih
  rw [ht] at ih hkn
  have hI2 := fun w bf S h1 h2 h3 => ih w ka kids'.length kc (.slice A xs.length wc) xs bf S h1 h2 hl h3
  unfold nodeV at hI2
  have HI := Lib.hid hI2; have HKN := Lib.hid hkn
  obtain ⟨kn, hkl⟩ : ∃ kn, kn = kids'.length := ⟨_, rfl⟩
  have hz8 : off + 0 * 8 = off := by omega
  rw [← hkl] at HKN HI hc8
  rw [hz8] at hc8
  have HC8 := Lib.hid hc8
  obtain ⟨w0, hw0⟩ : ∃ w0 : World, w0 = (w.alloc (.cells (nodeC 4 emp (mn : Int) (mx : Int) (.slice (some ⟨b, off, none⟩) 1 c)) 41)).alloc (.cells (barr (fun _ => false) (xs.length + 1)) 4) := ⟨_, rfl⟩
  have HA : Hid (AtG w0 w.heap.size 41 (nodeC 4 emp (mn : Int) (mx : Int) (.slice (some ⟨b, off, none⟩) 1 c))) := Lib.hid (by rw [hw0]; exact (AtG.new _ _ _).alloc _)
  have HO : Hid (AtG w0 (w.heap.size + 1) 4 (barr (fun _ => false) (xs.length + 1))) := Lib.hid (by
    rw [hw0]
    have := AtG.new (w.alloc (.cells (nodeC 4 emp (mn : Int) (mx : Int) (.slice (some ⟨b, off, none⟩) 1 c)) 41)) 4 (barr (fun _ => false) (xs.length + 1))
    simpa using this)
  have HB0 : Hid (Below w.heap.size w w0) := Lib.hid (by rw [hw0]; go_grown)
  have hw0' : (w.alloc (.cells #[.int .i64 4, .int .u64 ((wd emp 0 : Nat) : Int), .int .u64 ((wd emp 1 : Nat) : Int), .int .u64 ((wd emp 2 : Nat) : Int), .int .u64 ((wd emp 3 : Nat) : Int), .int .i64 (mn : Int), .int .i64 (mx : Int), .slice (some ⟨b, off, none⟩) 1 c] 41)).alloc (.cells (barr (fun _ => false) (xs.length + 1)) 4) = w0 := hw0.symm
  have m0 : w0.cell? ⟨w.heap.size, 0, none⟩ = some (.int .i64 4) := HA.out.cell 0 _ rfl
  have HLF := Lib.hid hfa.lt
  have hmxI : (mx : Int) ≤ 1000 := by omega
  have hmnI : (mn : Int) ≤ 1000 := by omega
  have HMN := Lib.hid h1
  obtain ⟨R, hR⟩ : ∃ R, R = Mt (byt xs) xs.length p := ⟨_, rfl⟩
  rw [← hR] at HI
  have HPOST : Hid (∀ i, img (Mt (byt xs) xs.length (.rep mn mx p)) (InS xs.length S) i ↔ ∃ u, mn ≤ u ∧ u ≤ mx ∧ imgN R (InS xs.length S) u i) := Lib.hid (fun i => by rw [hR]; exact mt_rep _ _ _ _ _ _ _)
  have HLE : Hid (∀ t i, imgN R (InS xs.length S) t i → i ≤ xs.length) := Lib.hid (fun t i => by rw [hR]; exact imgN_le _ _ _ _ _ _)
  clear hn hx hfa hw0 ih hI2 hkn ht hkl hz8 hc8 hR
  show Calls Tryz.prog 34 #[.agg #[.int .i64 4, .int .u64 ((wd emp 0 : Nat) : Int), .int .u64 ((wd emp 1 : Nat) : Int), .int .u64 ((wd emp 2 : Nat) : Int), .int .u64 ((wd emp 3 : Nat) : Int), .int .i64 (mn : Int), .int .i64 (mx : Int), .slice (some ⟨b, off, none⟩) 1 c], _, _] w _
  have hpost : ∀ (e : Ending) (w' : World), (Below w.heap.size w w' ∧ ∃ b' g', e = .returned (.slice (some ⟨b', 0, none⟩) (xs.length + 1) (xs.length + 1)) ∧ AtG w' b' 4 (barr g' (xs.length + 1)) ∧ (b' = bf ∨ w.heap.size ≤ b') ∧ ∀ i, i ≤ xs.length → (g' i = true ↔ ∃ u, mn ≤ u ∧ u ≤ mx ∧ imgN R (InS xs.length S) u i)) → (Below w.heap.size w w' ∧ ∃ b' g', e = .returned (.slice (some ⟨b', 0, none⟩) (xs.length + 1) (xs.length + 1)) ∧ AtG w' b' 4 (barr g' (xs.length + 1)) ∧ (b' = bf ∨ w.heap.size ≤ b') ∧ ∀ i, i ≤ xs.length → (g' i = true ↔ img (Mt (byt xs) xs.length (.rep mn mx p)) (InS xs.length S) i)) := by
    rintro e w' ⟨q1, b', g', q2, q3, q4, q5⟩
    exact ⟨q1, b', g', q2, q3, q4, fun i hi => (q5 i hi).trans (HPOST.out i).symm⟩
  refine Calls.mono ?_ hpost
  clear hpost HPOST
  go_enter Tryz.func34, Tryz.ntmps34
  go_wp2_with fail
  go_loopw [2, 16] (fun t2 i wr => ∃ t : Nat, t ≤ mx ∧ ∃ bq F g, t2 = .slice (some ⟨bq, 0, none⟩) (xs.length + 1) (xs.length + 1) ∧ i = .int .i64 t ∧ Below w.heap.size w wr ∧ AtG wr w.heap.size 41 (nodeC 4 emp (mn : Int) (mx : Int) (.slice (some ⟨b, off, none⟩) 1 c)) ∧ AtG wr bq 4 (barr F (xs.length + 1)) ∧ bq ≠ w.heap.size + 1 ∧ AtG wr (w.heap.size + 1) 4 (barr g (xs.length + 1)) ∧ (∀ i, i ≤ xs.length → (F i = true ↔ imgN R (InS xs.length S) t i)) ∧ ∀ i, i ≤ xs.length → (g i = true ↔ ∃ u, mn ≤ u ∧ u < t ∧ imgN R (InS xs.length S) u i)) (fun _ i _ => mx + 1 - (intOf i).toNat)
  case atStart => exact ⟨0, Nat.zero_le _, bf, S, _, rfl, rfl, HB0.out, HA.out, HF.out.below (HB0.out), by have := HLF.out; omega, HO.out, fun i hi => ⟨fun h => ⟨hi, h⟩, fun h => h.2⟩, fun i hi => ⟨(fun h => by cases h), fun ⟨u, _, h, _⟩ => absurd h (Nat.not_lt_zero _)⟩⟩
  case round =>
    clear hw0' m0 HA HO HB0 hmk
    obtain ⟨t, htm, bq, F, g, rfl, rfl, hb, ha, hq, hne, ho, hfi, hgi⟩ := hrel
    have HB := Lib.hid hb; have HAq := Lib.hid ha; have HQ := Lib.hid hq; have HNE := Lib.hid hne; have HO := Lib.hid ho; have HFI := Lib.hid hfi; have HGI := Lib.hid hgi
    have n6 : wr.cell? ⟨w.heap.size, 6, none⟩ = some (.int .i64 (mx : Int)) := ha.cell 6 _ rfl
    have n7 : wr.cell? ⟨w.heap.size, 7, none⟩ = some (.slice (some ⟨b, off, none⟩) 1 c) := ha.cell 7 _ rfl
    clear hb ha hq hne ho hfi hgi
    have htmI : (t : Int) ≤ (mx : Int) := by omega
    by_cases hlt : t < mx
    · have hltI : (t : Int) < (mx : Int) := by omega
      have HCO := Lib.hid (containsB_any bq (xs.length + 1) F true wr (by omega) HQ.out)
      go_wp2_with fail
      refine (HCO.out).mono ?_
      rintro e9 w9 ⟨rfl, r, rfl, hr⟩
      cases r with
      | true =>
        obtain ⟨c0, c1, c2, c3, c4, c5, c6, c7⟩ := Cell8.below HC8.out HB.out
        have HRR := Lib.hid hr; clear hr
        go_wp2_with fail
        refine (HI.out _ bq F (NAt.below HKN.out HB.out) (rdB_below HX.out HB.out) HQ.out).mono ?_
        rintro e9 w4 ⟨hb4, bn, G, rfl, hg4, hbn4, hgi4⟩
        have HB4 := Lib.hid (HB.out.trans (hb4.mono HB.out.size)); have HA4 := Lib.hid (HAq.out.below hb4); have HQ4 := Lib.hid (HQ.out.below hb4); have HO4 := Lib.hid (HO.out.below hb4); have HN4 := Lib.hid hg4
        have HNN : Hid (bn ≠ w.heap.size + 1) := Lib.hid (by
          rcases hbn4 with h | h
          · rw [h]; exact HNE.out
          · have := HO.out.lt; omega)
        have HGN : Hid (∀ i, i ≤ xs.length → (G i = true ↔ imgN R (InS xs.length S) (t + 1) i)) := Lib.hid (fun i hi => (hgi4 i hi).trans (img_congr (inS_iff HFI.out (HLE.out t)) i))
        clear hb4 hg4 hbn4 hgi4 n6 n7 c0 c1 c2 c3 c4 c5 c6 c7
        have HEQ := Lib.hid (equalB_any bn bq (xs.length + 1) G F w4 (by omega) HN4.out HQ4.out)
        go_wp2_with fail
        refine (HEQ.out).mono ?_
        rintro e9 w5 ⟨hb5, st, rfl, hst⟩
        have HB5 := Lib.hid (HB4.out.trans (hb5.mono HB4.out.size)); have HA5 := Lib.hid (HA4.out.below hb5); have HQ5 := Lib.hid (HQ4.out.below hb5); have HO5 := Lib.hid (HO4.out.below hb5); have HN5 := Lib.hid (HN4.out.below hb5)
        have HLT := Lib.hid hlt
        clear hb5 HEQ HCO
        cases st with
        | true =>
          have HSTOP : Hid (∀ i, (∃ u, mn ≤ u ∧ u ≤ mx ∧ imgN R (InS xs.length S) u i) ↔ ((∃ u, mn ≤ u ∧ u < t ∧ imgN R (InS xs.length S) u i) ∨ imgN R (InS xs.length S) t i)) := Lib.hid (rep_stop (fun i => by
            have hle : ∀ t i, imgN R (InS xs.length S) t i → i ≤ xs.length := HLE.out
            constructor
            · intro h
              have hi := hle (t + 1) i h
              exact (HFI.out i hi).1 ((hst.1 rfl i (by omega)) ▸ (HGN.out i hi).2 h)
            · intro h
              have hi := hle t i h
              exact (HGN.out i hi).1 ((hst.1 rfl i (by omega)).symm ▸ (HFI.out i hi).2 h)) (by omega) HMN.out)
          clear hst
          by_cases hmt : mn ≤ t
          · have hmtI : (mn : Int) ≤ (t : Int) := by omega
            go_wp2_with fail
            go_loopw [132] (fun i wq => ∃ q : Nat, q ≤ xs.length + 1 ∧ i = .int .i64 q ∧ Below w.heap.size w wq ∧ AtG wq w.heap.size 41 (nodeC 4 emp (mn : Int) (mx : Int) (.slice (some ⟨b, off, none⟩) 1 c)) ∧ AtG wq bq 4 (barr F (xs.length + 1)) ∧ AtG wq bn 4 (barr G (xs.length + 1)) ∧ ∃ h, AtG wq (w.heap.size + 1) 4 (barr h (xs.length + 1)) ∧ (∀ j, j < q → h j = (g j || (F j && true))) ∧ ∀ j, q ≤ j → h j = g j) (fun i _ => xs.length + 1 - (intOf i).toNat)
            case atStart => exact ⟨0, Nat.zero_le _, rfl, HB5.out, HA5.out, HQ5.out, HN5.out, g, HO5.out, fun j h => absurd h (Nat.not_lt_zero _), by first | exact fun _ _ => rfl | trivial⟩
            case round =>
              obtain ⟨q, hq, rfl, hb, ha, hr, hnn, h, hh, h1, h2⟩ := hrel
              have HBq := Lib.hid hb; have HAq := Lib.hid ha; have HRq := Lib.hid hr; have HNq := Lib.hid hnn; have HHq := Lib.hid hh; have H1 := Lib.hid h1; have H2 := Lib.hid h2
              have n5 : wr.cell? ⟨w.heap.size, 5, none⟩ = some (.int .i64 (mn : Int)) := ha.cell 5 _ rfl
              clear hb ha hr hnn hh h1 h2
              by_cases hltq : q < xs.length + 1
              · have hqI : (q : Int) < (xs.length : Int) + 1 := by omega
                have r1 := HRq.out.bool q hltq
                have o1 := HHq.out.bool q hltq
                have z1 := HHq.out.frozen q
                have hh2 := H2.out q (Nat.le_refl _)
                cases hgq : h q with
                | true =>
                  rw [hgq] at o1
                  go_wp2_with fail
                  refine ⟨⟨q + 1, by omega, by go_num, HBq.out.setCell (by simp) _, HAq.out.far (p := ⟨w.heap.size + 1, q, none⟩) (by show w.heap.size ≠ w.heap.size + 1; omega) _, HRq.out.far (p := ⟨w.heap.size + 1, q, none⟩) HNE.out _, HNq.out.far (p := ⟨w.heap.size + 1, q, none⟩) HNN.out _, updB h q true, HHq.out.setB q true, ?_, ?_⟩, by simp [intOf]; omega⟩
                  · intro j hj
                    unfold updB
                    by_cases e : j = q
                    · subst e; rw [if_pos rfl, ← hh2, hgq]; rfl
                    · rw [if_neg e]; exact H1.out j (by omega)
                  · intro j hj
                    unfold updB
                    rw [if_neg (by omega)]; exact H2.out j (by omega)
                | false =>
                  rw [hgq] at o1
                  cases hfq : F q with
                  | false =>
                    rw [hfq] at r1
                    go_wp2_with fail
                    refine ⟨⟨q + 1, by omega, by go_num, HBq.out.setCell (by simp) _, HAq.out.far (p := ⟨w.heap.size + 1, q, none⟩) (by show w.heap.size ≠ w.heap.size + 1; omega) _, HRq.out.far (p := ⟨w.heap.size + 1, q, none⟩) HNE.out _, HNq.out.far (p := ⟨w.heap.size + 1, q, none⟩) HNN.out _, updB h q false, HHq.out.setB q false, ?_, ?_⟩, by simp [intOf]; omega⟩
                    · intro j hj
                      unfold updB
                      by_cases e : j = q
                      · subst e; rw [if_pos rfl, ← hh2, hgq, hfq]; rfl
                      · rw [if_neg e]; exact H1.out j (by omega)
                    · intro j hj
                      unfold updB
                      rw [if_neg (by omega)]; exact H2.out j (by omega)
                  | true =>
                    rw [hfq] at r1
                    go_wp2_with fail
                    refine ⟨⟨q + 1, by omega, by go_num, HBq.out.setCell (by simp) _, HAq.out.far (p := ⟨w.heap.size + 1, q, none⟩) (by show w.heap.size ≠ w.heap.size + 1; omega) _, HRq.out.far (p := ⟨w.heap.size + 1, q, none⟩) HNE.out _, HNq.out.far (p := ⟨w.heap.size + 1, q, none⟩) HNN.out _, updB h q (true), HHq.out.setB q (true), ?_, ?_⟩, by simp [intOf]; omega⟩
                    · intro j hj
                      unfold updB
                      by_cases e : j = q
                      · subst e; rw [if_pos rfl, ← hh2, hgq, hfq]; rfl
                      · rw [if_neg e]; exact H1.out j (by omega)
                    · intro j hj
                      unfold updB
                      rw [if_neg (by omega)]; exact H2.out j (by omega)
              · obtain rfl : q = xs.length + 1 := by omega
                have H1' : Hid (∀ i, i ≤ xs.length → h i = (g i || (F i && true))) := Lib.hid (fun i hi => H1.out i (by omega))
                clear H1 H2 n5 hltq
                go_wp2_with fail
                go_returns
                refine ⟨HBq.out, w.heap.size + 1, h, rfl, HHq.out, .inr (by omega), fun i hi => ?_⟩
                rw [H1'.out i hi, Bool.and_true, Bool.or_eq_true, HGI.out i hi, HFI.out i hi]
                exact (HSTOP.out i).symm
          · have hmtI : ¬ (mn : Int) ≤ (t : Int) := by omega
            go_wp2_with fail
            go_loopw [132] (fun i wq => ∃ q : Nat, q ≤ xs.length + 1 ∧ i = .int .i64 q ∧ Below w.heap.size w wq ∧ AtG wq w.heap.size 41 (nodeC 4 emp (mn : Int) (mx : Int) (.slice (some ⟨b, off, none⟩) 1 c)) ∧ AtG wq bq 4 (barr F (xs.length + 1)) ∧ AtG wq bn 4 (barr G (xs.length + 1)) ∧ ∃ h, AtG wq (w.heap.size + 1) 4 (barr h (xs.length + 1)) ∧ (∀ j, j < q → h j = (g j || (F j && true))) ∧ ∀ j, q ≤ j → h j = g j) (fun i _ => xs.length + 1 - (intOf i).toNat)
            case atStart => exact ⟨0, Nat.zero_le _, rfl, HB5.out, HA5.out, HQ5.out, HN5.out, g, HO5.out, fun j h => absurd h (Nat.not_lt_zero _), by first | exact fun _ _ => rfl | trivial⟩
            case round =>
              obtain ⟨q, hq, rfl, hb, ha, hr, hnn, h, hh, h1, h2⟩ := hrel
              have HBq := Lib.hid hb; have HAq := Lib.hid ha; have HRq := Lib.hid hr; have HNq := Lib.hid hnn; have HHq := Lib.hid hh; have H1 := Lib.hid h1; have H2 := Lib.hid h2
              have n5 : wr.cell? ⟨w.heap.size, 5, none⟩ = some (.int .i64 (mn : Int)) := ha.cell 5 _ rfl
              clear hb ha hr hnn hh h1 h2
              by_cases hltq : q < xs.length + 1
              · have hqI : (q : Int) < (xs.length : Int) + 1 := by omega
                have r1 := HRq.out.bool q hltq
                have o1 := HHq.out.bool q hltq
                have z1 := HHq.out.frozen q
                have hh2 := H2.out q (Nat.le_refl _)
                cases hgq : h q with
                | true =>
                  rw [hgq] at o1
                  go_wp2_with fail
                  refine ⟨⟨q + 1, by omega, by go_num, HBq.out.setCell (by simp) _, HAq.out.far (p := ⟨w.heap.size + 1, q, none⟩) (by show w.heap.size ≠ w.heap.size + 1; omega) _, HRq.out.far (p := ⟨w.heap.size + 1, q, none⟩) HNE.out _, HNq.out.far (p := ⟨w.heap.size + 1, q, none⟩) HNN.out _, updB h q true, HHq.out.setB q true, ?_, ?_⟩, by simp [intOf]; omega⟩
                  · intro j hj
                    unfold updB
                    by_cases e : j = q
                    · subst e; rw [if_pos rfl, ← hh2, hgq]; rfl
                    · rw [if_neg e]; exact H1.out j (by omega)
                  · intro j hj
                    unfold updB
                    rw [if_neg (by omega)]; exact H2.out j (by omega)
                | false =>
                  rw [hgq] at o1
                  cases hfq : F q with
                  | false =>
                    rw [hfq] at r1
                    go_wp2_with fail
                    refine ⟨⟨q + 1, by omega, by go_num, HBq.out.setCell (by simp) _, HAq.out.far (p := ⟨w.heap.size + 1, q, none⟩) (by show w.heap.size ≠ w.heap.size + 1; omega) _, HRq.out.far (p := ⟨w.heap.size + 1, q, none⟩) HNE.out _, HNq.out.far (p := ⟨w.heap.size + 1, q, none⟩) HNN.out _, updB h q false, HHq.out.setB q false, ?_, ?_⟩, by simp [intOf]; omega⟩
                    · intro j hj
                      unfold updB
                      by_cases e : j = q
                      · subst e; rw [if_pos rfl, ← hh2, hgq, hfq]; rfl
                      · rw [if_neg e]; exact H1.out j (by omega)
                    · intro j hj
                      unfold updB
                      rw [if_neg (by omega)]; exact H2.out j (by omega)
                  | true =>
                    rw [hfq] at r1
                    go_wp2_with fail
                    refine ⟨⟨q + 1, by omega, by go_num, HBq.out.setCell (by simp) _, HAq.out.far (p := ⟨w.heap.size + 1, q, none⟩) (by show w.heap.size ≠ w.heap.size + 1; omega) _, HRq.out.far (p := ⟨w.heap.size + 1, q, none⟩) HNE.out _, HNq.out.far (p := ⟨w.heap.size + 1, q, none⟩) HNN.out _, updB h q (true), HHq.out.setB q (true), ?_, ?_⟩, by simp [intOf]; omega⟩
                    · intro j hj
                      unfold updB
                      by_cases e : j = q
                      · subst e; rw [if_pos rfl, ← hh2, hgq, hfq]; rfl
                      · rw [if_neg e]; exact H1.out j (by omega)
                    · intro j hj
                      unfold updB
                      rw [if_neg (by omega)]; exact H2.out j (by omega)
              · obtain rfl : q = xs.length + 1 := by omega
                have H1' : Hid (∀ i, i ≤ xs.length → h i = (g i || (F i && true))) := Lib.hid (fun i hi => H1.out i (by omega))
                clear H1 H2 n5 hltq
                go_wp2_with fail
                go_returns
                refine ⟨HBq.out, w.heap.size + 1, h, rfl, HHq.out, .inr (by omega), fun i hi => ?_⟩
                rw [H1'.out i hi, Bool.and_true, Bool.or_eq_true, HGI.out i hi, HFI.out i hi]
                exact (HSTOP.out i).symm
        | false =>
          clear hst
          by_cases hmt : mn ≤ t
          · have hmtI : (mn : Int) ≤ (t : Int) := by omega
            have HNEXT : Hid (∀ i, i ≤ xs.length → ((∃ u, mn ≤ u ∧ u < t ∧ imgN R (InS xs.length S) u i) ∨ (F i && true) = true ↔ ∃ u, mn ≤ u ∧ u < t + 1 ∧ imgN R (InS xs.length S) u i)) := Lib.hid (fun i hi => by
              rw [Bool.and_true, HFI.out i hi]
              constructor
              · rintro (⟨u, a1, a2, a3⟩ | a3)
                · exact ⟨u, a1, by omega, a3⟩
                · exact ⟨t, hmt, by omega, a3⟩
              · rintro ⟨u, a1, a2, a3⟩
                by_cases e : u = t
                · subst e; exact .inr a3
                · exact .inl ⟨u, a1, by omega, a3⟩)
            go_wp2_with fail
            go_loopw [132] (fun i wq => ∃ q : Nat, q ≤ xs.length + 1 ∧ i = .int .i64 q ∧ Below w.heap.size w wq ∧ AtG wq w.heap.size 41 (nodeC 4 emp (mn : Int) (mx : Int) (.slice (some ⟨b, off, none⟩) 1 c)) ∧ AtG wq bq 4 (barr F (xs.length + 1)) ∧ AtG wq bn 4 (barr G (xs.length + 1)) ∧ ∃ h, AtG wq (w.heap.size + 1) 4 (barr h (xs.length + 1)) ∧ (∀ j, j < q → h j = (g j || (F j && true))) ∧ ∀ j, q ≤ j → h j = g j) (fun i _ => xs.length + 1 - (intOf i).toNat)
            case atStart => exact ⟨0, Nat.zero_le _, rfl, HB5.out, HA5.out, HQ5.out, HN5.out, g, HO5.out, fun j h => absurd h (Nat.not_lt_zero _), by first | exact fun _ _ => rfl | trivial⟩
            case round =>
              obtain ⟨q, hq, rfl, hb, ha, hr, hnn, h, hh, h1, h2⟩ := hrel
              have HBq := Lib.hid hb; have HAq := Lib.hid ha; have HRq := Lib.hid hr; have HNq := Lib.hid hnn; have HHq := Lib.hid hh; have H1 := Lib.hid h1; have H2 := Lib.hid h2
              have n5 : wr.cell? ⟨w.heap.size, 5, none⟩ = some (.int .i64 (mn : Int)) := ha.cell 5 _ rfl
              clear hb ha hr hnn hh h1 h2
              by_cases hltq : q < xs.length + 1
              · have hqI : (q : Int) < (xs.length : Int) + 1 := by omega
                have r1 := HRq.out.bool q hltq
                have o1 := HHq.out.bool q hltq
                have z1 := HHq.out.frozen q
                have hh2 := H2.out q (Nat.le_refl _)
                cases hgq : h q with
                | true =>
                  rw [hgq] at o1
                  go_wp2_with fail
                  refine ⟨⟨q + 1, by omega, by go_num, HBq.out.setCell (by simp) _, HAq.out.far (p := ⟨w.heap.size + 1, q, none⟩) (by show w.heap.size ≠ w.heap.size + 1; omega) _, HRq.out.far (p := ⟨w.heap.size + 1, q, none⟩) HNE.out _, HNq.out.far (p := ⟨w.heap.size + 1, q, none⟩) HNN.out _, updB h q true, HHq.out.setB q true, ?_, ?_⟩, by simp [intOf]; omega⟩
                  · intro j hj
                    unfold updB
                    by_cases e : j = q
                    · subst e; rw [if_pos rfl, ← hh2, hgq]; rfl
                    · rw [if_neg e]; exact H1.out j (by omega)
                  · intro j hj
                    unfold updB
                    rw [if_neg (by omega)]; exact H2.out j (by omega)
                | false =>
                  rw [hgq] at o1
                  cases hfq : F q with
                  | false =>
                    rw [hfq] at r1
                    go_wp2_with fail
                    refine ⟨⟨q + 1, by omega, by go_num, HBq.out.setCell (by simp) _, HAq.out.far (p := ⟨w.heap.size + 1, q, none⟩) (by show w.heap.size ≠ w.heap.size + 1; omega) _, HRq.out.far (p := ⟨w.heap.size + 1, q, none⟩) HNE.out _, HNq.out.far (p := ⟨w.heap.size + 1, q, none⟩) HNN.out _, updB h q false, HHq.out.setB q false, ?_, ?_⟩, by simp [intOf]; omega⟩
                    · intro j hj
                      unfold updB
                      by_cases e : j = q
                      · subst e; rw [if_pos rfl, ← hh2, hgq, hfq]; rfl
                      · rw [if_neg e]; exact H1.out j (by omega)
                    · intro j hj
                      unfold updB
                      rw [if_neg (by omega)]; exact H2.out j (by omega)
                  | true =>
                    rw [hfq] at r1
                    go_wp2_with fail
                    refine ⟨⟨q + 1, by omega, by go_num, HBq.out.setCell (by simp) _, HAq.out.far (p := ⟨w.heap.size + 1, q, none⟩) (by show w.heap.size ≠ w.heap.size + 1; omega) _, HRq.out.far (p := ⟨w.heap.size + 1, q, none⟩) HNE.out _, HNq.out.far (p := ⟨w.heap.size + 1, q, none⟩) HNN.out _, updB h q (true), HHq.out.setB q (true), ?_, ?_⟩, by simp [intOf]; omega⟩
                    · intro j hj
                      unfold updB
                      by_cases e : j = q
                      · subst e; rw [if_pos rfl, ← hh2, hgq, hfq]; rfl
                      · rw [if_neg e]; exact H1.out j (by omega)
                    · intro j hj
                      unfold updB
                      rw [if_neg (by omega)]; exact H2.out j (by omega)
              · obtain rfl : q = xs.length + 1 := by omega
                have H1' : Hid (∀ i, i ≤ xs.length → h i = (g i || (F i && true))) := Lib.hid (fun i hi => H1.out i (by omega))
                clear H1 H2 n5 hltq
                go_wp2_with fail
                exact ⟨⟨t + 1, by have := HLT.out; omega, bn, G, h, rfl, by go_num, HBq.out, HAq.out, HNq.out, HNN.out, HHq.out, HGN.out, fun i hi => by
                  rw [H1'.out i hi, Bool.or_eq_true, HGI.out i hi]
                  exact HNEXT.out i hi⟩, by simp [intOf]; have := HLT.out; omega⟩
          · have hmtI : ¬ (mn : Int) ≤ (t : Int) := by omega
            have HNEXT : Hid (∀ i, i ≤ xs.length → ((∃ u, mn ≤ u ∧ u < t ∧ imgN R (InS xs.length S) u i) ∨ (F i && false) = true ↔ ∃ u, mn ≤ u ∧ u < t + 1 ∧ imgN R (InS xs.length S) u i)) := Lib.hid (fun i hi => by
              constructor
              · rintro (⟨u, a1, a2, a3⟩ | a3)
                · exact ⟨u, a1, by omega, a3⟩
                · simp at a3
              · rintro ⟨u, a1, a2, a3⟩
                exact absurd a1 (by omega))
            go_wp2_with fail
            go_loopw [132] (fun i wq => ∃ q : Nat, q ≤ xs.length + 1 ∧ i = .int .i64 q ∧ Below w.heap.size w wq ∧ AtG wq w.heap.size 41 (nodeC 4 emp (mn : Int) (mx : Int) (.slice (some ⟨b, off, none⟩) 1 c)) ∧ AtG wq bq 4 (barr F (xs.length + 1)) ∧ AtG wq bn 4 (barr G (xs.length + 1)) ∧ ∃ h, AtG wq (w.heap.size + 1) 4 (barr h (xs.length + 1)) ∧ (∀ j, j < q → h j = (g j || (F j && false))) ∧ ∀ j, q ≤ j → h j = g j) (fun i _ => xs.length + 1 - (intOf i).toNat)
            case atStart => exact ⟨0, Nat.zero_le _, rfl, HB5.out, HA5.out, HQ5.out, HN5.out, g, HO5.out, fun j h => absurd h (Nat.not_lt_zero _), by first | exact fun _ _ => rfl | trivial⟩
            case round =>
              obtain ⟨q, hq, rfl, hb, ha, hr, hnn, h, hh, h1, h2⟩ := hrel
              have HBq := Lib.hid hb; have HAq := Lib.hid ha; have HRq := Lib.hid hr; have HNq := Lib.hid hnn; have HHq := Lib.hid hh; have H1 := Lib.hid h1; have H2 := Lib.hid h2
              have n5 : wr.cell? ⟨w.heap.size, 5, none⟩ = some (.int .i64 (mn : Int)) := ha.cell 5 _ rfl
              clear hb ha hr hnn hh h1 h2
              by_cases hltq : q < xs.length + 1
              · have hqI : (q : Int) < (xs.length : Int) + 1 := by omega
                have r1 := HRq.out.bool q hltq
                have o1 := HHq.out.bool q hltq
                have z1 := HHq.out.frozen q
                have hh2 := H2.out q (Nat.le_refl _)
                cases hgq : h q with
                | true =>
                  rw [hgq] at o1
                  go_wp2_with fail
                  refine ⟨⟨q + 1, by omega, by go_num, HBq.out.setCell (by simp) _, HAq.out.far (p := ⟨w.heap.size + 1, q, none⟩) (by show w.heap.size ≠ w.heap.size + 1; omega) _, HRq.out.far (p := ⟨w.heap.size + 1, q, none⟩) HNE.out _, HNq.out.far (p := ⟨w.heap.size + 1, q, none⟩) HNN.out _, updB h q true, HHq.out.setB q true, ?_, ?_⟩, by simp [intOf]; omega⟩
                  · intro j hj
                    unfold updB
                    by_cases e : j = q
                    · subst e; rw [if_pos rfl, ← hh2, hgq]; rfl
                    · rw [if_neg e]; exact H1.out j (by omega)
                  · intro j hj
                    unfold updB
                    rw [if_neg (by omega)]; exact H2.out j (by omega)
                | false =>
                  rw [hgq] at o1
                  cases hfq : F q with
                  | false =>
                    rw [hfq] at r1
                    go_wp2_with fail
                    refine ⟨⟨q + 1, by omega, by go_num, HBq.out.setCell (by simp) _, HAq.out.far (p := ⟨w.heap.size + 1, q, none⟩) (by show w.heap.size ≠ w.heap.size + 1; omega) _, HRq.out.far (p := ⟨w.heap.size + 1, q, none⟩) HNE.out _, HNq.out.far (p := ⟨w.heap.size + 1, q, none⟩) HNN.out _, updB h q false, HHq.out.setB q false, ?_, ?_⟩, by simp [intOf]; omega⟩
                    · intro j hj
                      unfold updB
                      by_cases e : j = q
                      · subst e; rw [if_pos rfl, ← hh2, hgq, hfq]; rfl
                      · rw [if_neg e]; exact H1.out j (by omega)
                    · intro j hj
                      unfold updB
                      rw [if_neg (by omega)]; exact H2.out j (by omega)
                  | true =>
                    rw [hfq] at r1
                    go_wp2_with fail
                    refine ⟨⟨q + 1, by omega, by go_num, HBq.out.setCell (by simp) _, HAq.out.far (p := ⟨w.heap.size + 1, q, none⟩) (by show w.heap.size ≠ w.heap.size + 1; omega) _, HRq.out.far (p := ⟨w.heap.size + 1, q, none⟩) HNE.out _, HNq.out.far (p := ⟨w.heap.size + 1, q, none⟩) HNN.out _, updB h q (false), HHq.out.setB q (false), ?_, ?_⟩, by simp [intOf]; omega⟩
                    · intro j hj
                      unfold updB
                      by_cases e : j = q
                      · subst e; rw [if_pos rfl, ← hh2, hgq, hfq]; rfl
                      · rw [if_neg e]; exact H1.out j (by omega)
                    · intro j hj
                      unfold updB
                      rw [if_neg (by omega)]; exact H2.out j (by omega)
              · obtain rfl : q = xs.length + 1 := by omega
                have H1' : Hid (∀ i, i ≤ xs.length → h i = (g i || (F i && false))) := Lib.hid (fun i hi => H1.out i (by omega))
                clear H1 H2 n5 hltq
                go_wp2_with fail
                exact ⟨⟨t + 1, by have := HLT.out; omega, bn, G, h, rfl, by go_num, HBq.out, HAq.out, HNq.out, HNN.out, HHq.out, HGN.out, fun i hi => by
                  rw [H1'.out i hi, Bool.or_eq_true, HGI.out i hi]
                  exact HNEXT.out i hi⟩, by simp [intOf]; have := HLT.out; omega⟩
      | false =>
        have HSTOP : Hid (∀ i, (∃ u, mn ≤ u ∧ u ≤ mx ∧ imgN R (InS xs.length S) u i) ↔ ((∃ u, mn ≤ u ∧ u < t ∧ imgN R (InS xs.length S) u i) ∨ imgN R (InS xs.length S) t i)) := Lib.hid (rep_stop (fun i => by
          have hle : ∀ t i, imgN R (InS xs.length S) t i → i ≤ xs.length := HLE.out
          have hno : ∀ j, ¬ imgN R (InS xs.length S) t j := fun j hj => by
            have h3 := hle t j hj
            have := hr.2 ⟨j, by omega, (HFI.out j h3).2 hj⟩
            cases this
          exact ⟨fun h => absurd h (img_none hno i), fun h => absurd h (hno i)⟩) (by omega) HMN.out)
        clear hr n6 n7
        obtain ⟨bn, hbn⟩ : ∃ bn, bn = bq := ⟨_, rfl⟩
        obtain ⟨G, hG⟩ : ∃ G, G = F := ⟨_, rfl⟩
        have HEQ := Lib.hid (equalB_any bq bq (xs.length + 1) F F _ (by omega) HQ.out HQ.out)
        have HNN : Hid (bn ≠ w.heap.size + 1) := Lib.hid (by rw [hbn]; exact HNE.out)
        go_wp2_with fail
        refine (HEQ.out).mono ?_
        rintro e9 w5 ⟨hb5, st, rfl, hst⟩
        obtain rfl : st = true := hst.2 (by first | exact fun _ _ => rfl | trivial | simp)
        have HB5 := Lib.hid (HB.out.trans (hb5.mono HB.out.size)); have HA5 := Lib.hid (HAq.out.below hb5); have HQ5 := Lib.hid (HQ.out.below hb5); have HO5 := Lib.hid (HO.out.below hb5)
        have HN5 : Hid (AtG w5 bn 4 (barr G (xs.length + 1))) := Lib.hid (by rw [hbn, hG]; exact HQ5.out)
        clear hb5 hst HEQ HCO hbn hG
        by_cases hmt : mn ≤ t
        · have hmtI : (mn : Int) ≤ (t : Int) := by omega
          go_wp2_with fail
          go_loopw [132] (fun i wq => ∃ q : Nat, q ≤ xs.length + 1 ∧ i = .int .i64 q ∧ Below w.heap.size w wq ∧ AtG wq w.heap.size 41 (nodeC 4 emp (mn : Int) (mx : Int) (.slice (some ⟨b, off, none⟩) 1 c)) ∧ AtG wq bq 4 (barr F (xs.length + 1)) ∧ AtG wq bn 4 (barr G (xs.length + 1)) ∧ ∃ h, AtG wq (w.heap.size + 1) 4 (barr h (xs.length + 1)) ∧ (∀ j, j < q → h j = (g j || (F j && true))) ∧ ∀ j, q ≤ j → h j = g j) (fun i _ => xs.length + 1 - (intOf i).toNat)
          case atStart => exact ⟨0, Nat.zero_le _, rfl, HB5.out, HA5.out, HQ5.out, HN5.out, g, HO5.out, fun j h => absurd h (Nat.not_lt_zero _), by first | exact fun _ _ => rfl | trivial⟩
          case round =>
            obtain ⟨q, hq, rfl, hb, ha, hr, hnn, h, hh, h1, h2⟩ := hrel
            have HBq := Lib.hid hb; have HAq := Lib.hid ha; have HRq := Lib.hid hr; have HNq := Lib.hid hnn; have HHq := Lib.hid hh; have H1 := Lib.hid h1; have H2 := Lib.hid h2
            have n5 : wr.cell? ⟨w.heap.size, 5, none⟩ = some (.int .i64 (mn : Int)) := ha.cell 5 _ rfl
            clear hb ha hr hnn hh h1 h2
            by_cases hltq : q < xs.length + 1
            · have hqI : (q : Int) < (xs.length : Int) + 1 := by omega
              have r1 := HRq.out.bool q hltq
              have o1 := HHq.out.bool q hltq
              have z1 := HHq.out.frozen q
              have hh2 := H2.out q (Nat.le_refl _)
              cases hgq : h q with
              | true =>
                rw [hgq] at o1
                go_wp2_with fail
                refine ⟨⟨q + 1, by omega, by go_num, HBq.out.setCell (by simp) _, HAq.out.far (p := ⟨w.heap.size + 1, q, none⟩) (by show w.heap.size ≠ w.heap.size + 1; omega) _, HRq.out.far (p := ⟨w.heap.size + 1, q, none⟩) HNE.out _, HNq.out.far (p := ⟨w.heap.size + 1, q, none⟩) HNN.out _, updB h q true, HHq.out.setB q true, ?_, ?_⟩, by simp [intOf]; omega⟩
                · intro j hj
                  unfold updB
                  by_cases e : j = q
                  · subst e; rw [if_pos rfl, ← hh2, hgq]; rfl
                  · rw [if_neg e]; exact H1.out j (by omega)
                · intro j hj
                  unfold updB
                  rw [if_neg (by omega)]; exact H2.out j (by omega)
              | false =>
                rw [hgq] at o1
                cases hfq : F q with
                | false =>
                  rw [hfq] at r1
                  go_wp2_with fail
                  refine ⟨⟨q + 1, by omega, by go_num, HBq.out.setCell (by simp) _, HAq.out.far (p := ⟨w.heap.size + 1, q, none⟩) (by show w.heap.size ≠ w.heap.size + 1; omega) _, HRq.out.far (p := ⟨w.heap.size + 1, q, none⟩) HNE.out _, HNq.out.far (p := ⟨w.heap.size + 1, q, none⟩) HNN.out _, updB h q false, HHq.out.setB q false, ?_, ?_⟩, by simp [intOf]; omega⟩
                  · intro j hj
                    unfold updB
                    by_cases e : j = q
                    · subst e; rw [if_pos rfl, ← hh2, hgq, hfq]; rfl
                    · rw [if_neg e]; exact H1.out j (by omega)
                  · intro j hj
                    unfold updB
                    rw [if_neg (by omega)]; exact H2.out j (by omega)
                | true =>
                  rw [hfq] at r1
                  go_wp2_with fail
                  refine ⟨⟨q + 1, by omega, by go_num, HBq.out.setCell (by simp) _, HAq.out.far (p := ⟨w.heap.size + 1, q, none⟩) (by show w.heap.size ≠ w.heap.size + 1; omega) _, HRq.out.far (p := ⟨w.heap.size + 1, q, none⟩) HNE.out _, HNq.out.far (p := ⟨w.heap.size + 1, q, none⟩) HNN.out _, updB h q (true), HHq.out.setB q (true), ?_, ?_⟩, by simp [intOf]; omega⟩
                  · intro j hj
                    unfold updB
                    by_cases e : j = q
                    · subst e; rw [if_pos rfl, ← hh2, hgq, hfq]; rfl
                    · rw [if_neg e]; exact H1.out j (by omega)
                  · intro j hj
                    unfold updB
                    rw [if_neg (by omega)]; exact H2.out j (by omega)
            · obtain rfl : q = xs.length + 1 := by omega
              have H1' : Hid (∀ i, i ≤ xs.length → h i = (g i || (F i && true))) := Lib.hid (fun i hi => H1.out i (by omega))
              clear H1 H2 n5 hltq
              go_wp2_with fail
              go_returns
              refine ⟨HBq.out, w.heap.size + 1, h, rfl, HHq.out, .inr (by omega), fun i hi => ?_⟩
              rw [H1'.out i hi, Bool.and_true, Bool.or_eq_true, HGI.out i hi, HFI.out i hi]
              exact (HSTOP.out i).symm
        · have hmtI : ¬ (mn : Int) ≤ (t : Int) := by omega
          go_wp2_with fail
          go_loopw [132] (fun i wq => ∃ q : Nat, q ≤ xs.length + 1 ∧ i = .int .i64 q ∧ Below w.heap.size w wq ∧ AtG wq w.heap.size 41 (nodeC 4 emp (mn : Int) (mx : Int) (.slice (some ⟨b, off, none⟩) 1 c)) ∧ AtG wq bq 4 (barr F (xs.length + 1)) ∧ AtG wq bn 4 (barr G (xs.length + 1)) ∧ ∃ h, AtG wq (w.heap.size + 1) 4 (barr h (xs.length + 1)) ∧ (∀ j, j < q → h j = (g j || (F j && true))) ∧ ∀ j, q ≤ j → h j = g j) (fun i _ => xs.length + 1 - (intOf i).toNat)
          case atStart => exact ⟨0, Nat.zero_le _, rfl, HB5.out, HA5.out, HQ5.out, HN5.out, g, HO5.out, fun j h => absurd h (Nat.not_lt_zero _), by first | exact fun _ _ => rfl | trivial⟩
          case round =>
            obtain ⟨q, hq, rfl, hb, ha, hr, hnn, h, hh, h1, h2⟩ := hrel
            have HBq := Lib.hid hb; have HAq := Lib.hid ha; have HRq := Lib.hid hr; have HNq := Lib.hid hnn; have HHq := Lib.hid hh; have H1 := Lib.hid h1; have H2 := Lib.hid h2
            have n5 : wr.cell? ⟨w.heap.size, 5, none⟩ = some (.int .i64 (mn : Int)) := ha.cell 5 _ rfl
            clear hb ha hr hnn hh h1 h2
            by_cases hltq : q < xs.length + 1
            · have hqI : (q : Int) < (xs.length : Int) + 1 := by omega
              have r1 := HRq.out.bool q hltq
              have o1 := HHq.out.bool q hltq
              have z1 := HHq.out.frozen q
              have hh2 := H2.out q (Nat.le_refl _)
              cases hgq : h q with
              | true =>
                rw [hgq] at o1
                go_wp2_with fail
                refine ⟨⟨q + 1, by omega, by go_num, HBq.out.setCell (by simp) _, HAq.out.far (p := ⟨w.heap.size + 1, q, none⟩) (by show w.heap.size ≠ w.heap.size + 1; omega) _, HRq.out.far (p := ⟨w.heap.size + 1, q, none⟩) HNE.out _, HNq.out.far (p := ⟨w.heap.size + 1, q, none⟩) HNN.out _, updB h q true, HHq.out.setB q true, ?_, ?_⟩, by simp [intOf]; omega⟩
                · intro j hj
                  unfold updB
                  by_cases e : j = q
                  · subst e; rw [if_pos rfl, ← hh2, hgq]; rfl
                  · rw [if_neg e]; exact H1.out j (by omega)
                · intro j hj
                  unfold updB
                  rw [if_neg (by omega)]; exact H2.out j (by omega)
              | false =>
                rw [hgq] at o1
                cases hfq : F q with
                | false =>
                  rw [hfq] at r1
                  go_wp2_with fail
                  refine ⟨⟨q + 1, by omega, by go_num, HBq.out.setCell (by simp) _, HAq.out.far (p := ⟨w.heap.size + 1, q, none⟩) (by show w.heap.size ≠ w.heap.size + 1; omega) _, HRq.out.far (p := ⟨w.heap.size + 1, q, none⟩) HNE.out _, HNq.out.far (p := ⟨w.heap.size + 1, q, none⟩) HNN.out _, updB h q false, HHq.out.setB q false, ?_, ?_⟩, by simp [intOf]; omega⟩
                  · intro j hj
                    unfold updB
                    by_cases e : j = q
                    · subst e; rw [if_pos rfl, ← hh2, hgq, hfq]; rfl
                    · rw [if_neg e]; exact H1.out j (by omega)
                  · intro j hj
                    unfold updB
                    rw [if_neg (by omega)]; exact H2.out j (by omega)
                | true =>
                  rw [hfq] at r1
                  go_wp2_with fail
                  refine ⟨⟨q + 1, by omega, by go_num, HBq.out.setCell (by simp) _, HAq.out.far (p := ⟨w.heap.size + 1, q, none⟩) (by show w.heap.size ≠ w.heap.size + 1; omega) _, HRq.out.far (p := ⟨w.heap.size + 1, q, none⟩) HNE.out _, HNq.out.far (p := ⟨w.heap.size + 1, q, none⟩) HNN.out _, updB h q (true), HHq.out.setB q (true), ?_, ?_⟩, by simp [intOf]; omega⟩
                  · intro j hj
                    unfold updB
                    by_cases e : j = q
                    · subst e; rw [if_pos rfl, ← hh2, hgq, hfq]; rfl
                    · rw [if_neg e]; exact H1.out j (by omega)
                  · intro j hj
                    unfold updB
                    rw [if_neg (by omega)]; exact H2.out j (by omega)
            · obtain rfl : q = xs.length + 1 := by omega
              have H1' : Hid (∀ i, i ≤ xs.length → h i = (g i || (F i && true))) := Lib.hid (fun i hi => H1.out i (by omega))
              clear H1 H2 n5 hltq
              go_wp2_with fail
              go_returns
              refine ⟨HBq.out, w.heap.size + 1, h, rfl, HHq.out, .inr (by omega), fun i hi => ?_⟩
              rw [H1'.out i hi, Bool.and_true, Bool.or_eq_true, HGI.out i hi, HFI.out i hi]
              exact (HSTOP.out i).symm
    · have htx : t = mx := by omega
      have hltI : ¬ (t : Int) < (mx : Int) := by omega
      have hmt : mn ≤ t := by have := HMN.out; omega
      have hmtI : (mn : Int) ≤ (t : Int) := by omega
      have HSTOP : Hid (∀ i, (∃ u, mn ≤ u ∧ u ≤ mx ∧ imgN R (InS xs.length S) u i) ↔ ((∃ u, mn ≤ u ∧ u < t ∧ imgN R (InS xs.length S) u i) ∨ imgN R (InS xs.length S) t i)) := Lib.hid (fun i => by
        constructor
        · rintro ⟨u, a1, a2, a3⟩
          by_cases e : u = t
          · subst e; exact .inr a3
          · exact .inl ⟨u, a1, by omega, a3⟩
        · rintro (⟨u, a1, a2, a3⟩ | a3)
          · exact ⟨u, a1, by omega, a3⟩
          · exact ⟨t, hmt, htm, a3⟩)
      obtain ⟨bn, hbn⟩ : ∃ bn, bn = bq := ⟨_, rfl⟩
      obtain ⟨G, hG⟩ : ∃ G, G = F := ⟨_, rfl⟩
      have HEQ := Lib.hid (equalB_any bq bq (xs.length + 1) F F _ (by omega) HQ.out HQ.out)
      have HNN : Hid (bn ≠ w.heap.size + 1) := Lib.hid (by rw [hbn]; exact HNE.out)
      go_wp2_with fail
      refine (HEQ.out).mono ?_
      rintro e9 w5 ⟨hb5, st, rfl, hst⟩
      obtain rfl : st = true := hst.2 (by first | exact fun _ _ => rfl | trivial | simp)
      have HB5 := Lib.hid (HB.out.trans (hb5.mono HB.out.size)); have HA5 := Lib.hid (HAq.out.below hb5); have HQ5 := Lib.hid (HQ.out.below hb5); have HO5 := Lib.hid (HO.out.below hb5)
      have HN5 : Hid (AtG w5 bn 4 (barr G (xs.length + 1))) := Lib.hid (by rw [hbn, hG]; exact HQ5.out)
      clear hb5 hst HEQ hbn hG n6 n7
      go_wp2_with fail
      go_loopw [132] (fun i wq => ∃ q : Nat, q ≤ xs.length + 1 ∧ i = .int .i64 q ∧ Below w.heap.size w wq ∧ AtG wq w.heap.size 41 (nodeC 4 emp (mn : Int) (mx : Int) (.slice (some ⟨b, off, none⟩) 1 c)) ∧ AtG wq bq 4 (barr F (xs.length + 1)) ∧ AtG wq bn 4 (barr G (xs.length + 1)) ∧ ∃ h, AtG wq (w.heap.size + 1) 4 (barr h (xs.length + 1)) ∧ (∀ j, j < q → h j = (g j || (F j && true))) ∧ ∀ j, q ≤ j → h j = g j) (fun i _ => xs.length + 1 - (intOf i).toNat)
      case atStart => exact ⟨0, Nat.zero_le _, rfl, HB5.out, HA5.out, HQ5.out, HN5.out, g, HO5.out, fun j h => absurd h (Nat.not_lt_zero _), by first | exact fun _ _ => rfl | trivial⟩
      case round =>
        obtain ⟨q, hq, rfl, hb, ha, hr, hnn, h, hh, h1, h2⟩ := hrel
        have HBq := Lib.hid hb; have HAq := Lib.hid ha; have HRq := Lib.hid hr; have HNq := Lib.hid hnn; have HHq := Lib.hid hh; have H1 := Lib.hid h1; have H2 := Lib.hid h2
        have n5 : wr.cell? ⟨w.heap.size, 5, none⟩ = some (.int .i64 (mn : Int)) := ha.cell 5 _ rfl
        clear hb ha hr hnn hh h1 h2
        by_cases hltq : q < xs.length + 1
        · have hqI : (q : Int) < (xs.length : Int) + 1 := by omega
          have r1 := HRq.out.bool q hltq
          have o1 := HHq.out.bool q hltq
          have z1 := HHq.out.frozen q
          have hh2 := H2.out q (Nat.le_refl _)
          cases hgq : h q with
          | true =>
            rw [hgq] at o1
            go_wp2_with fail
            refine ⟨⟨q + 1, by omega, by go_num, HBq.out.setCell (by simp) _, HAq.out.far (p := ⟨w.heap.size + 1, q, none⟩) (by show w.heap.size ≠ w.heap.size + 1; omega) _, HRq.out.far (p := ⟨w.heap.size + 1, q, none⟩) HNE.out _, HNq.out.far (p := ⟨w.heap.size + 1, q, none⟩) HNN.out _, updB h q true, HHq.out.setB q true, ?_, ?_⟩, by simp [intOf]; omega⟩
            · intro j hj
              unfold updB
              by_cases e : j = q
              · subst e; rw [if_pos rfl, ← hh2, hgq]; rfl
              · rw [if_neg e]; exact H1.out j (by omega)
            · intro j hj
              unfold updB
              rw [if_neg (by omega)]; exact H2.out j (by omega)
          | false =>
            rw [hgq] at o1
            cases hfq : F q with
            | false =>
              rw [hfq] at r1
              go_wp2_with fail
              refine ⟨⟨q + 1, by omega, by go_num, HBq.out.setCell (by simp) _, HAq.out.far (p := ⟨w.heap.size + 1, q, none⟩) (by show w.heap.size ≠ w.heap.size + 1; omega) _, HRq.out.far (p := ⟨w.heap.size + 1, q, none⟩) HNE.out _, HNq.out.far (p := ⟨w.heap.size + 1, q, none⟩) HNN.out _, updB h q false, HHq.out.setB q false, ?_, ?_⟩, by simp [intOf]; omega⟩
              · intro j hj
                unfold updB
                by_cases e : j = q
                · subst e; rw [if_pos rfl, ← hh2, hgq, hfq]; rfl
                · rw [if_neg e]; exact H1.out j (by omega)
              · intro j hj
                unfold updB
                rw [if_neg (by omega)]; exact H2.out j (by omega)
            | true =>
              rw [hfq] at r1
              go_wp2_with fail
              refine ⟨⟨q + 1, by omega, by go_num, HBq.out.setCell (by simp) _, HAq.out.far (p := ⟨w.heap.size + 1, q, none⟩) (by show w.heap.size ≠ w.heap.size + 1; omega) _, HRq.out.far (p := ⟨w.heap.size + 1, q, none⟩) HNE.out _, HNq.out.far (p := ⟨w.heap.size + 1, q, none⟩) HNN.out _, updB h q (true), HHq.out.setB q (true), ?_, ?_⟩, by simp [intOf]; omega⟩
              · intro j hj
                unfold updB
                by_cases e : j = q
                · subst e; rw [if_pos rfl, ← hh2, hgq, hfq]; rfl
                · rw [if_neg e]; exact H1.out j (by omega)
              · intro j hj
                unfold updB
                rw [if_neg (by omega)]; exact H2.out j (by omega)
        · obtain rfl : q = xs.length + 1 := by omega
          have H1' : Hid (∀ i, i ≤ xs.length → h i = (g i || (F i && true))) := Lib.hid (fun i hi => H1.out i (by omega))
          clear H1 H2 n5 hltq
          go_wp2_with fail
          go_returns
          refine ⟨HBq.out, w.heap.size + 1, h, rfl, HHq.out, .inr (by omega), fun i hi => ?_⟩
          rw [H1'.out i hi, Bool.and_true, Bool.or_eq_true, HGI.out i hi, HFI.out i hi]
          exact (HSTOP.out i).symm
theorem ends_any (p : Pat) : Wf p → EndsC p := by
  refine Pat.ind (M := fun p => Wf p → EndsC p) ?_ ?_ ?_ ?_ p
  · exact fun f _ => ends_one f
  · intro l ih hw
    cases hw with | cat _ h h2 h3 => exact ends_cat l h3 fun p hp => ih p hp (h p hp)
  · intro l ih hw
    cases hw with | alt _ h h2 h3 => exact ends_alt l h3 fun p hp => ih p hp (h p hp)
  · intro mn mx p ih hw
    cases hw with | rep _ _ _ h h1 h2 h3 => exact ends_rep mn mx p h1 (by omega) (ih h)
end Go.Proofs.YtgjcibhhffkemaaGreatDoor
/- The walk of lang.Has. -/
set_option linter.unusedVariables false
set_option linter.unusedSimpArgs false
namespace Go.Proofs.YtgjcibhhffkemaaGreatDoor
open Go.RowKit Bt
set_option maxRecDepth 100000 in
set_option maxHeartbeats 1600000 in
theorem hasP_any (p : Pat) (hp : Wf p) (w : World) (a : Option Addr) (m c : Nat) (wv : Value) (xs : List Int) (hn : NAt w p.tree (.slice a m c)) (hx : RdB w wv xs) (hl : xs.length ≤ 1000) :
    Calls Tryz.prog 15 #[nodeV p.tree (.slice a m c), wv] w fun e w' => Below w.heap.size w w' ∧ ∃ r : Bool, e = .returned (.bool r) ∧ (r = true ↔ Mt (byt xs) xs.length p 0 xs.length) := by
  have hE := ends_any p hp
  unfold EndsC at hE
  rcases hpt : p.tree with ⟨op, f, mn, mx, kids⟩
  rw [hpt] at hn hE
  obtain ⟨A, wc, rfl⟩ := rdB_slice hx
  have hnI : (xs.length : Int) ≤ 1000 := by omega
  have hmk := make_one (P := Tryz.prog) 84 4 (.bool false) 1 Tryz.underlying84 infoBool rfl .i64 .i64 (xs.length + 1) (by omega) (by omega)
  rw [show ((xs.length + 1 : Nat) : Int) = (xs.length : Int) + 1 from by omega, barr_zero] at hmk
  obtain ⟨w0, hw0⟩ : ∃ w0 : World, w0 = (w.alloc (.cells (nodeC op f mn mx (.slice a m c)) 41)).alloc (.cells (barr (fun _ => false) (xs.length + 1)) 4) := ⟨_, rfl⟩
  have HA : Hid (AtG w0 w.heap.size 41 (nodeC op f mn mx (.slice a m c))) := Lib.hid (by rw [hw0]; exact (AtG.new _ _ _).alloc _)
  have HO : Hid (AtG w0 (w.heap.size + 1) 4 (barr (fun _ => false) (xs.length + 1))) := Lib.hid (by
    rw [hw0]
    have := AtG.new (w.alloc (.cells (nodeC op f mn mx (.slice a m c)) 41)) 4 (barr (fun _ => false) (xs.length + 1))
    simpa using this)
  have HB0 : Hid (Below w.heap.size w w0) := Lib.hid (by rw [hw0]; go_grown)
  have hw0' : (w.alloc (.cells (nodeC op f mn mx (.slice a m c)) 41)).alloc (.cells (barr (fun _ => false) (xs.length + 1)) 4) = w0 := hw0.symm
  clear hw0
  have HX := Lib.hid hx; have HN := Lib.hid hn
  have hE2 := fun w bf S h1 h2 h3 => hE w a m c (.slice A xs.length wc) xs bf S h1 h2 hl h3
  unfold nodeV at hE2 ⊢
  dsimp only at hE2 ⊢
  have HE := Lib.hid hE2
  have y0 := HO.out.frozen 0
  have o0 := HO.out.bool 0 (by omega)
  have HW1 : Hid (AtG (w0.setCell ⟨w.heap.size + 1, 0, none⟩ (.bool true)) (w.heap.size + 1) 4 (barr (updB (fun _ => false) 0 true) (xs.length + 1))) := Lib.hid (HO.out.setB 0 true)
  have HB1 : Hid (Below w.heap.size w (w0.setCell ⟨w.heap.size + 1, 0, none⟩ (.bool true))) := Lib.hid (HB0.out.setCell (by simp) _)
  have HA1 := Lib.hid (HA.out.far (p := ⟨w.heap.size + 1, 0, none⟩) (by show w.heap.size ≠ w.heap.size + 1; omega) (.bool true))
  clear hE hE2 hx hn
  have m0 : w0.cell? ⟨w.heap.size, 0, none⟩ = some (.int .i64 op) := HA.out.cell 0 _ rfl
  have m1 : w0.cell? ⟨w.heap.size, 1, none⟩ = some (.int .u64 ((wd f 0 : Nat) : Int)) := HA.out.cell 1 _ rfl
  have m2 : w0.cell? ⟨w.heap.size, 2, none⟩ = some (.int .u64 ((wd f 1 : Nat) : Int)) := HA.out.cell 2 _ rfl
  have m3 : w0.cell? ⟨w.heap.size, 3, none⟩ = some (.int .u64 ((wd f 2 : Nat) : Int)) := HA.out.cell 3 _ rfl
  have m4 : w0.cell? ⟨w.heap.size, 4, none⟩ = some (.int .u64 ((wd f 3 : Nat) : Int)) := HA.out.cell 4 _ rfl
  have m5 : w0.cell? ⟨w.heap.size, 5, none⟩ = some (.int .i64 mn) := HA.out.cell 5 _ rfl
  have m6 : w0.cell? ⟨w.heap.size, 6, none⟩ = some (.int .i64 mx) := HA.out.cell 6 _ rfl
  have m7 : w0.cell? ⟨w.heap.size, 7, none⟩ = some (.slice a m c) := HA.out.cell 7 _ rfl
  go_enter Tryz.func15, Tryz.ntmps15
  go_wp2_with fail
  refine (HE.out _ (w.heap.size + 1) (updB (fun _ => false) 0 true) (NAt.below HN.out HB1.out) (rdB_below HX.out HB1.out) HW1.out).mono ?_
  rintro e9 w9 ⟨hb9, b9, g9, rfl, hg9, _, hgi9⟩
  have HB9 := Lib.hid (HB1.out.trans (hb9.mono HB1.out.size))
  have r1 := hg9.bool xs.length (by omega)
  have HG := Lib.hid (hgi9 xs.length (Nat.le_refl _))
  clear hb9 hg9 hgi9 hw0' m0 m1 m2 m3 m4 m5 m6 m7 y0 o0 hmk
  go_wp2_with fail
  go_returns
  refine ⟨HB9.out, g9 xs.length, rfl, HG.out.trans ?_⟩
  constructor
  · rintro ⟨j, ⟨_, hj⟩, hm⟩
    have hj0 : j = 0 := by
      unfold updB at hj
      by_cases e : j = 0
      · exact e
      · rw [if_neg e] at hj; cases hj
    subst hj0; exact hm
  · intro hm
    exact ⟨0, ⟨Nat.zero_le _, by unfold updB; rw [if_pos rfl]⟩, hm⟩
end Go.Proofs.YtgjcibhhffkemaaGreatDoor
/- The walks of Least and Most. -/
set_option linter.unusedVariables false
set_option linter.unusedSimpArgs false
namespace Go.Proofs.YtgjcibhhffkemaaGreatDoor
open Go.RowKit Bt
/-- what lang.Least does with a pattern -/
def LeastC (p : Pat) : Prop := ∀ (w : World) (a : Option Addr) (n c : Nat), NAt w p.tree (.slice a n c) → Calls Tryz.prog 17 #[nodeV p.tree (.slice a n c)] w fun e w' => e = .returned (.int .i64 (leastP p : Int)) ∧ Below w.heap.size w w'
set_option maxRecDepth 100000 in
theorem least_one (f : Nat → Bool) : LeastC (.one f) := by
  intro w a n c h
  show Calls Tryz.prog 17 #[.agg #[.int .i64 1, .int .u64 ((wd f 0 : Nat) : Int), .int .u64 ((wd f 1 : Nat) : Int), .int .u64 ((wd f 2 : Nat) : Int), .int .u64 ((wd f 3 : Nat) : Int), .int .i64 0, .int .i64 0, .slice a n c]] w _
  go_enter Tryz.func17, Tryz.ntmps17
  go_wp2
  go_returns
  exact ⟨rfl, by go_grown⟩
set_option maxRecDepth 100000 in
set_option maxHeartbeats 800000 in
theorem least_cat (l : List Pat) (hl : l.length ≤ 1000) (ih : ∀ p ∈ l, LeastC p) : LeastC (.cat l) := by
  intro w a n c h
  obtain rfl : n = l.length := by
    obtain ⟨a', c', hn⟩ := KAt.slice h
    injection hn with _ hn _
    rw [trees_len] at hn; exact hn
  have H := Lib.hid h
  have hX : (leastP (.cat l) : Int) = min (leastC l : Int) 1000 := by rw [leastP]; omega
  have hY := leastC_le l
  have HX := Lib.hid hX
  have hlI : (l.length : Int) ≤ 1000 := by omega
  clear h hX
  show Calls Tryz.prog 17 #[.agg #[.int .i64 2, .int .u64 ((wd emp 0 : Nat) : Int), .int .u64 ((wd emp 1 : Nat) : Int), .int .u64 ((wd emp 2 : Nat) : Int), .int .u64 ((wd emp 3 : Nat) : Int), .int .i64 0, .int .i64 0, .slice a l.length c]] w _
  rw [HX.out]
  go_enter Tryz.func17, Tryz.ntmps17
  go_wp2_with fail
  go_loopw [3, 19] (fun out i wr => ∃ k : Nat, k ≤ l.length ∧ i = .int .i64 k ∧ out = .int .i64 ((leastC (l.take k) : Nat) : Int) ∧ Below w.heap.size w wr) (fun _ i _ => l.length - (intOf i).toNat)
  case atStart => exact ⟨0, Nat.zero_le _, rfl, by simp [leastC], by go_grown⟩
  case round =>
    obtain ⟨k, hk, rfl, rfl, hb⟩ := hrel
    by_cases hlt : k < l.length
    · obtain ⟨b, off, cap, heq, hcap, op', f', mn', mx', kids', ka, kc, ht, hc8, hkn⟩ := kid_at (H.out.below hb) (trees_get hlt)
      injection heq with e1 e2 e3
      subst e1; subst e3
      clear e2
      rw [trees_len] at hcap
      have hI := ih l[k] (List.getElem_mem hlt)
      unfold LeastC at hI
      rw [ht] at hI hkn
      have hS := leastC_snoc l k hlt
      have hB1 := leastC_le (l.take k)
      have hB2 := leastP_le l[k]
      have htk : (l.take k).length = k := by simp; omega
      generalize leastP l[k] = m at *
      generalize hq : leastC (l.take k) = q at *
      have HS := Lib.hid hS; have HB := Lib.hid hb; have HKN := Lib.hid (hkn.alloc (.cells (nodeC op' f' mn' mx' (.slice ka kids'.length kc)) 41))
      have hI2 := fun w h => hI w ka kids'.length kc h
      unfold nodeV at hI2
      have HI := Lib.hid hI2
      obtain ⟨c0, c1, c2, c3, c4, c5, c6, c7⟩ := hc8
      obtain ⟨kn, hkl⟩ : ∃ kn, kn = kids'.length := ⟨_, rfl⟩
      rw [← hkl] at c7 HKN HI
      have hm1 : (m : Int) ≤ 1000 := by omega
      have hq1 : (q : Int) ≤ 1000000 := by omega
      clear hS hb hkn hI hI2 hkl ht hq hB1 hB2 htk
      go_wp2_with fail
      refine (HI.out _ HKN.out).mono ?_
      rintro e9 w9 ⟨rfl, hb9⟩
      have HB9 := Lib.hid ((HB.out.alloc HB.out.size (.cells (nodeC op' f' mn' mx' (.slice ka kn kc)) 41)).trans (hb9.mono (by have := HB.out.size; simp; omega)))
      clear hb9
      go_wp2_with fail
      exact ⟨⟨k + 1, by omega, by go_num, by rw [HS.out]; go_num, HB9.out⟩, by simp [intOf]; omega⟩
    · obtain rfl : k = l.length := by omega
      rw [List.take_length]
      have HB := Lib.hid hb; clear hb
      go_wp2_with fail
      all_goals (go_returns; exact ⟨by refine congrArg (fun z => Ending.returned (Value.int .i64 z)) ?_; omega, HB.out⟩)
set_option maxRecDepth 100000 in
set_option maxHeartbeats 800000 in
theorem least_alt (l : List Pat) (hl : l.length ≤ 1000) (ih : ∀ p ∈ l, LeastC p) : LeastC (.alt l) := by
  intro w a n c h
  obtain rfl : n = l.length := by
    obtain ⟨a', c', hn⟩ := KAt.slice h
    injection hn with _ hn _
    rw [trees_len] at hn; exact hn
  have H := Lib.hid h
  have hX : (leastP (.alt l) : Int) = min (leastA l : Int) 1000 := by rw [leastP]; omega
  have hY := leastA_le l
  have HX := Lib.hid hX
  have hlI : (l.length : Int) ≤ 1000 := by omega
  clear h hX
  show Calls Tryz.prog 17 #[.agg #[.int .i64 3, .int .u64 ((wd emp 0 : Nat) : Int), .int .u64 ((wd emp 1 : Nat) : Int), .int .u64 ((wd emp 2 : Nat) : Int), .int .u64 ((wd emp 3 : Nat) : Int), .int .i64 0, .int .i64 0, .slice a l.length c]] w _
  rw [HX.out]
  go_enter Tryz.func17, Tryz.ntmps17
  go_wp2_with fail
  go_loopw [3, 33] (fun out i wr => ∃ k : Nat, k ≤ l.length ∧ i = .int .i64 k ∧ out = .int .i64 ((leastA (l.take k) : Nat) : Int) ∧ Below w.heap.size w wr) (fun _ i _ => l.length - (intOf i).toNat)
  case atStart => exact ⟨0, Nat.zero_le _, rfl, by simp [leastA], by go_grown⟩
  case round =>
    obtain ⟨k, hk, rfl, rfl, hb⟩ := hrel
    by_cases hlt : k < l.length
    · obtain ⟨b, off, cap, heq, hcap, op', f', mn', mx', kids', ka, kc, ht, hc8, hkn⟩ := kid_at (H.out.below hb) (trees_get hlt)
      injection heq with e1 e2 e3
      subst e1; subst e3
      clear e2
      rw [trees_len] at hcap
      have hI := ih l[k] (List.getElem_mem hlt)
      unfold LeastC at hI
      rw [ht] at hI hkn
      have hS := leastA_snoc l k hlt
      have hB1 := leastA_le (l.take k)
      have hB2 := leastP_le l[k]
      have htk : (l.take k).length = k := by simp; omega
      generalize leastP l[k] = m at *
      generalize hq : leastA (l.take k) = q at *
      have HS := Lib.hid hS; have HB := Lib.hid hb; have HKN := Lib.hid (hkn.alloc (.cells (nodeC op' f' mn' mx' (.slice ka kids'.length kc)) 41))
      have hI2 := fun w h => hI w ka kids'.length kc h
      unfold nodeV at hI2
      have HI := Lib.hid hI2
      obtain ⟨c0, c1, c2, c3, c4, c5, c6, c7⟩ := hc8
      obtain ⟨kn, hkl⟩ : ∃ kn, kn = kids'.length := ⟨_, rfl⟩
      rw [← hkl] at c7 HKN HI
      have hm1 : (m : Int) ≤ 1000 := by omega
      have hq1 : (q : Int) ≤ 1000000 := by omega
      clear hS hb hkn hI hI2 hkl ht hq hB1 hB2 htk
      go_wp2_with fail
      refine (HI.out _ HKN.out).mono ?_
      rintro e9 w9 ⟨rfl, hb9⟩
      have HB9 := Lib.hid ((HB.out.alloc HB.out.size (.cells (nodeC op' f' mn' mx' (.slice ka kn kc)) 41)).trans (hb9.mono (by have := HB.out.size; simp; omega)))
      clear hb9
      go_wp2_with fail
      exact ⟨⟨k + 1, by omega, by go_num, by rw [HS.out]; congr 1; omega, HB9.out⟩, by simp [intOf]; omega⟩
    · obtain rfl : k = l.length := by omega
      rw [List.take_length]
      have HB := Lib.hid hb; clear hb
      go_wp2_with fail
      all_goals (go_returns; exact ⟨by refine congrArg (fun z => Ending.returned (Value.int .i64 z)) ?_; omega, HB.out⟩)
set_option maxRecDepth 100000 in
set_option maxHeartbeats 1600000 in
theorem least_rep (mn mx : Nat) (p : Pat) (h1 : mn ≤ 1000) (h2 : mx ≤ 1000) (ih : LeastC p) : LeastC (.rep mn mx p) := by
  intro w a n c h
  obtain rfl : n = 1 := by
    obtain ⟨a', c', hn⟩ := KAt.slice h
    injection hn with _ hn _
  have H := Lib.hid (NAt.alloc h (.cells (nodeC 4 emp (mn : Int) (mx : Int) (.slice a 1 c)) 41))
  have hX : (leastP (.rep mn mx p) : Int) = min ((mn : Int) * (leastP p : Int)) 1000 := by rw [leastP]; push_cast; omega
  have HX := Lib.hid hX
  clear hX h
  have HA := Lib.hid (AtG.new w 41 (nodeC 4 emp (mn : Int) (mx : Int) (.slice a 1 c)))
  have HB0 := Lib.hid ((Below.refl w.heap.size w).alloc (Nat.le_refl _) (.cells (nodeC 4 emp (mn : Int) (mx : Int) (.slice a 1 c)) 41))
  show Calls Tryz.prog 17 #[.agg #[.int .i64 4, .int .u64 ((wd emp 0 : Nat) : Int), .int .u64 ((wd emp 1 : Nat) : Int), .int .u64 ((wd emp 2 : Nat) : Int), .int .u64 ((wd emp 3 : Nat) : Int), .int .i64 (mn : Int), .int .i64 (mx : Int), .slice a 1 c]] w _
  rw [HX.out]
  unfold LeastC at ih
  have hB2 := leastP_le p
  generalize leastP p = m at *
  go_enter Tryz.func17, Tryz.ntmps17
  go_wp2_with fail
  refine wp_loop_rounds 2 ?_
  rw [rounds_succ]
  obtain ⟨b, off, cap, heq, hcap, op', f', mn', mx', kids', ka, kc, ht, hc8, hkn⟩ := kid_at (j := 0) (t := p.tree) H.out rfl
  injection heq with e1 e2 e3
  subst e1; subst e3
  clear e2
  rw [ht] at ih hkn
  obtain ⟨w0, hw0⟩ : ∃ w0 : World, w0 = w.alloc (.cells (nodeC 4 emp (mn : Int) (mx : Int) (.slice (some ⟨b, off, none⟩) 1 c)) 41) := ⟨_, rfl⟩
  have hw0' : w.alloc (.cells #[.int .i64 4, .int .u64 ((wd emp 0 : Nat) : Int), .int .u64 ((wd emp 1 : Nat) : Int), .int .u64 ((wd emp 2 : Nat) : Int), .int .u64 ((wd emp 3 : Nat) : Int), .int .i64 (mn : Int), .int .i64 (mx : Int), .slice (some ⟨b, off, none⟩) 1 c] 41) = w0 := hw0.symm
  rw [hw0']
  rw [← hw0] at hc8 hkn HA HB0 H
  have hsz : w0.heap.size = w.heap.size + 1 := by rw [hw0]; simp
  have hin2 := fun w h => ih w ka kids'.length kc h
  unfold nodeV at hin2
  have HI := Lib.hid hin2
  have HKN := Lib.hid (hkn.alloc (.cells (nodeC op' f' mn' mx' (.slice ka kids'.length kc)) 41))
  obtain ⟨c0, c1, c2, c3, c4, c5, c6, c7⟩ := hc8
  have hz8 : off + 0 * 8 = off := by omega
  rw [hz8] at c0 c1 c2 c3 c4 c5 c6 c7
  have HA2 := Lib.hid (HA.out.alloc (.cells (nodeC op' f' mn' mx' (.slice ka kids'.length kc)) 41))
  have HB2 := Lib.hid (HB0.out.alloc (by omega) (.cells (nodeC op' f' mn' mx' (.slice ka kids'.length kc)) 41))
  obtain ⟨kn, hkl⟩ : ∃ kn, kn = kids'.length := ⟨_, rfl⟩
  rw [← hkl] at c7 HKN HI HA2 HB2
  have HSZ := Lib.hid hsz
  have hm1 : (m : Int) ≤ 1000 := by omega
  have hml : (mn : Int) * (m : Int) ≤ 1000000 := by
    have : mn * m ≤ 1000 * 1000 := Nat.mul_le_mul (by omega) (by omega)
    have h3 : ((mn * m : Nat) : Int) ≤ 1000000 := by omega
    rwa [Int.natCast_mul] at h3
  have hml0 : 0 ≤ (mn : Int) * (m : Int) := Int.mul_nonneg (Int.natCast_nonneg _) (Int.natCast_nonneg _)
  clear ih hin2 hkn ht hkl hw0' hw0 hz8 hcap hsz hB2
  go_upto_region 22 with (fail)
  obtain ⟨w1, hw1⟩ : ∃ w1 : World, w1 = w0.alloc (.cells (nodeC op' f' mn' mx' (.slice ka kn kc)) 41) := ⟨_, rfl⟩
  have hw1' : w0.alloc (.cells #[.int .i64 op', .int .u64 ((wd f' 0 : Nat) : Int), .int .u64 ((wd f' 1 : Nat) : Int), .int .u64 ((wd f' 2 : Nat) : Int), .int .u64 ((wd f' 3 : Nat) : Int), .int .i64 mn', .int .i64 mx', .slice ka kn kc] 41) = w1 := hw1.symm
  rw [hw1']
  have HN := Lib.hid (AtG.new w0 41 (nodeC op' f' mn' mx' (.slice ka kn kc)))
  rw [← hw1] at HKN HA2 HB2 HN
  clear hw1 hw1' c0 c1 c2 c3 c4 c5 c6 c7
  refine Rg.wp_region_each (by kernel_rfl) (fun w' => AtG w' w.heap.size 41 (nodeC 4 emp (mn : Int) (mx : Int) (.slice (some ⟨b, off, none⟩) 1 c)) ∧ AtG w' w0.heap.size 41 (nodeC op' f' mn' mx' (.slice ka kn kc)) ∧ NAt w' (.node op' f' mn' mx' kids') (.slice ka kn kc) ∧ Below w.heap.size w w') (fun w1 w2 h hb => ⟨h.1.below hb, h.2.1.below hb, h.2.2.1.below hb, h.2.2.2.trans (hb.mono h.2.2.2.size)⟩) (by kernel_rfl) (by kernel_rfl) (⟨HA2.out, HN.out, HKN.out, HB2.out⟩) ?_
  show Rg.Build _ _ _ _ _ 0 [_, _, _, _, _, _] []
  refine Rg.build_cons (m := 1) (r := Rg.eq _) (Rg.one_plain (by rfl) (by (intro ax wx hk Kx hK; have k1 := hk.base 1 _ rfl rfl; have hj := hk.j; clear hk; have m5 : wx.cell? ⟨w.heap.size, 5, none⟩ = some (.int .i64 (mn : Int)) := hj.1.cell 5 _ rfl; have m6 : wx.cell? ⟨w.heap.size, 6, none⟩ = some (.int .i64 (mx : Int)) := hj.1.cell 6 _ rfl; have q0 : wx.cell? ⟨w0.heap.size, 0, none⟩ = some (.int .i64 op') := hj.2.1.cell 0 _ rfl; have q1 : wx.cell? ⟨w0.heap.size, 1, none⟩ = some (.int .u64 ((wd f' 0 : Nat) : Int)) := hj.2.1.cell 1 _ rfl; have q2 : wx.cell? ⟨w0.heap.size, 2, none⟩ = some (.int .u64 ((wd f' 1 : Nat) : Int)) := hj.2.1.cell 2 _ rfl; have q3 : wx.cell? ⟨w0.heap.size, 3, none⟩ = some (.int .u64 ((wd f' 2 : Nat) : Int)) := hj.2.1.cell 3 _ rfl; have q4 : wx.cell? ⟨w0.heap.size, 4, none⟩ = some (.int .u64 ((wd f' 3 : Nat) : Int)) := hj.2.1.cell 4 _ rfl; have q5 : wx.cell? ⟨w0.heap.size, 5, none⟩ = some (.int .i64 mn') := hj.2.1.cell 5 _ rfl; have q6 : wx.cell? ⟨w0.heap.size, 6, none⟩ = some (.int .i64 mx') := hj.2.1.cell 6 _ rfl; have q7 : wx.cell? ⟨w0.heap.size, 7, none⟩ = some (.slice ka kn kc) := hj.2.1.cell 7 _ rfl; go_simp; refine hK _ _ ?_ (Below.refl _ _); apply Rg.mk))) ?_ rfl
  refine Rg.build_cons (m := 2) (r := Rg.eq _) (Rg.one_plain (by rfl) (by (intro ax wx hk Kx hK; obtain ⟨v51, k51, h51⟩ := hk.dep 0 51 _ rfl rfl rfl; (first | (cases (h51 : v51 = _)) | (obtain ⟨rfl, h51⟩ := h51) | skip); have hj := hk.j; clear hk; have m5 : wx.cell? ⟨w.heap.size, 5, none⟩ = some (.int .i64 (mn : Int)) := hj.1.cell 5 _ rfl; have m6 : wx.cell? ⟨w.heap.size, 6, none⟩ = some (.int .i64 (mx : Int)) := hj.1.cell 6 _ rfl; have q0 : wx.cell? ⟨w0.heap.size, 0, none⟩ = some (.int .i64 op') := hj.2.1.cell 0 _ rfl; have q1 : wx.cell? ⟨w0.heap.size, 1, none⟩ = some (.int .u64 ((wd f' 0 : Nat) : Int)) := hj.2.1.cell 1 _ rfl; have q2 : wx.cell? ⟨w0.heap.size, 2, none⟩ = some (.int .u64 ((wd f' 1 : Nat) : Int)) := hj.2.1.cell 2 _ rfl; have q3 : wx.cell? ⟨w0.heap.size, 3, none⟩ = some (.int .u64 ((wd f' 2 : Nat) : Int)) := hj.2.1.cell 3 _ rfl; have q4 : wx.cell? ⟨w0.heap.size, 4, none⟩ = some (.int .u64 ((wd f' 3 : Nat) : Int)) := hj.2.1.cell 4 _ rfl; have q5 : wx.cell? ⟨w0.heap.size, 5, none⟩ = some (.int .i64 mn') := hj.2.1.cell 5 _ rfl; have q6 : wx.cell? ⟨w0.heap.size, 6, none⟩ = some (.int .i64 mx') := hj.2.1.cell 6 _ rfl; have q7 : wx.cell? ⟨w0.heap.size, 7, none⟩ = some (.slice ka kn kc) := hj.2.1.cell 7 _ rfl; go_simp; refine hK _ _ ?_ (Below.refl _ _); apply Rg.mk))) ?_ rfl
  refine Rg.build_cons (m := 3) (r := Rg.eq _) (Rg.one_plain (by rfl) (by (intro ax wx hk Kx hK; have k9 := hk.base 9 _ rfl rfl; have hj := hk.j; clear hk; have m5 : wx.cell? ⟨w.heap.size, 5, none⟩ = some (.int .i64 (mn : Int)) := hj.1.cell 5 _ rfl; have m6 : wx.cell? ⟨w.heap.size, 6, none⟩ = some (.int .i64 (mx : Int)) := hj.1.cell 6 _ rfl; have q0 : wx.cell? ⟨w0.heap.size, 0, none⟩ = some (.int .i64 op') := hj.2.1.cell 0 _ rfl; have q1 : wx.cell? ⟨w0.heap.size, 1, none⟩ = some (.int .u64 ((wd f' 0 : Nat) : Int)) := hj.2.1.cell 1 _ rfl; have q2 : wx.cell? ⟨w0.heap.size, 2, none⟩ = some (.int .u64 ((wd f' 1 : Nat) : Int)) := hj.2.1.cell 2 _ rfl; have q3 : wx.cell? ⟨w0.heap.size, 3, none⟩ = some (.int .u64 ((wd f' 2 : Nat) : Int)) := hj.2.1.cell 3 _ rfl; have q4 : wx.cell? ⟨w0.heap.size, 4, none⟩ = some (.int .u64 ((wd f' 3 : Nat) : Int)) := hj.2.1.cell 4 _ rfl; have q5 : wx.cell? ⟨w0.heap.size, 5, none⟩ = some (.int .i64 mn') := hj.2.1.cell 5 _ rfl; have q6 : wx.cell? ⟨w0.heap.size, 6, none⟩ = some (.int .i64 mx') := hj.2.1.cell 6 _ rfl; have q7 : wx.cell? ⟨w0.heap.size, 7, none⟩ = some (.slice ka kn kc) := hj.2.1.cell 7 _ rfl; go_simp; refine hK _ _ ?_ (Below.refl _ _); apply Rg.mk))) ?_ rfl
  refine Rg.build_cons (m := 4) (r := Rg.eq _) (Rg.one_plain (by rfl) (by (intro ax wx hk Kx hK; obtain ⟨v53, k53, h53⟩ := hk.dep 2 53 _ rfl rfl rfl; (first | (cases (h53 : v53 = _)) | (obtain ⟨rfl, h53⟩ := h53) | skip); have hj := hk.j; clear hk; have m5 : wx.cell? ⟨w.heap.size, 5, none⟩ = some (.int .i64 (mn : Int)) := hj.1.cell 5 _ rfl; have m6 : wx.cell? ⟨w.heap.size, 6, none⟩ = some (.int .i64 (mx : Int)) := hj.1.cell 6 _ rfl; have q0 : wx.cell? ⟨w0.heap.size, 0, none⟩ = some (.int .i64 op') := hj.2.1.cell 0 _ rfl; have q1 : wx.cell? ⟨w0.heap.size, 1, none⟩ = some (.int .u64 ((wd f' 0 : Nat) : Int)) := hj.2.1.cell 1 _ rfl; have q2 : wx.cell? ⟨w0.heap.size, 2, none⟩ = some (.int .u64 ((wd f' 1 : Nat) : Int)) := hj.2.1.cell 2 _ rfl; have q3 : wx.cell? ⟨w0.heap.size, 3, none⟩ = some (.int .u64 ((wd f' 2 : Nat) : Int)) := hj.2.1.cell 3 _ rfl; have q4 : wx.cell? ⟨w0.heap.size, 4, none⟩ = some (.int .u64 ((wd f' 3 : Nat) : Int)) := hj.2.1.cell 4 _ rfl; have q5 : wx.cell? ⟨w0.heap.size, 5, none⟩ = some (.int .i64 mn') := hj.2.1.cell 5 _ rfl; have q6 : wx.cell? ⟨w0.heap.size, 6, none⟩ = some (.int .i64 mx') := hj.2.1.cell 6 _ rfl; have q7 : wx.cell? ⟨w0.heap.size, 7, none⟩ = some (.slice ka kn kc) := hj.2.1.cell 7 _ rfl; go_simp; refine (HI.out _ hj.2.2.1).mono ?_; rintro e w' ⟨rfl, hb⟩; refine hK _ _ ?_ hb; apply Rg.mk))) ?_ rfl
  refine Rg.build_cons (m := 5) (r := Rg.eq (.int .i64 ((mn : Int) * (m : Int)))) (Rg.one_plain (by rfl) (by (intro ax wx hk Kx hK; obtain ⟨v52, k52, h52⟩ := hk.dep 1 52 _ rfl rfl rfl; (first | (cases (h52 : v52 = _)) | (obtain ⟨rfl, h52⟩ := h52) | skip); obtain ⟨v54, k54, h54⟩ := hk.dep 3 54 _ rfl rfl rfl; (first | (cases (h54 : v54 = _)) | (obtain ⟨rfl, h54⟩ := h54) | skip); have hj := hk.j; clear hk; have m5 : wx.cell? ⟨w.heap.size, 5, none⟩ = some (.int .i64 (mn : Int)) := hj.1.cell 5 _ rfl; have m6 : wx.cell? ⟨w.heap.size, 6, none⟩ = some (.int .i64 (mx : Int)) := hj.1.cell 6 _ rfl; have q0 : wx.cell? ⟨w0.heap.size, 0, none⟩ = some (.int .i64 op') := hj.2.1.cell 0 _ rfl; have q1 : wx.cell? ⟨w0.heap.size, 1, none⟩ = some (.int .u64 ((wd f' 0 : Nat) : Int)) := hj.2.1.cell 1 _ rfl; have q2 : wx.cell? ⟨w0.heap.size, 2, none⟩ = some (.int .u64 ((wd f' 1 : Nat) : Int)) := hj.2.1.cell 2 _ rfl; have q3 : wx.cell? ⟨w0.heap.size, 3, none⟩ = some (.int .u64 ((wd f' 2 : Nat) : Int)) := hj.2.1.cell 3 _ rfl; have q4 : wx.cell? ⟨w0.heap.size, 4, none⟩ = some (.int .u64 ((wd f' 3 : Nat) : Int)) := hj.2.1.cell 4 _ rfl; have q5 : wx.cell? ⟨w0.heap.size, 5, none⟩ = some (.int .i64 mn') := hj.2.1.cell 5 _ rfl; have q6 : wx.cell? ⟨w0.heap.size, 6, none⟩ = some (.int .i64 mx') := hj.2.1.cell 6 _ rfl; have q7 : wx.cell? ⟨w0.heap.size, 7, none⟩ = some (.slice ka kn kc) := hj.2.1.cell 7 _ rfl; (go_simp; refine hK _ _ ?_ (Below.refl _ _); simp [Rg.eq, IntKind.wrap_i64]; try omega)))) ?_ rfl
  refine Rg.build_cons (m := 6) (r := Rg.eq _) (Rg.one_plain (by rfl) (by (intro ax wx hk Kx hK; obtain ⟨v55, k55, h55⟩ := hk.dep 4 55 _ rfl rfl rfl; (first | (cases (h55 : v55 = _)) | (obtain ⟨rfl, h55⟩ := h55) | skip); have hj := hk.j; clear hk; have m5 : wx.cell? ⟨w.heap.size, 5, none⟩ = some (.int .i64 (mn : Int)) := hj.1.cell 5 _ rfl; have m6 : wx.cell? ⟨w.heap.size, 6, none⟩ = some (.int .i64 (mx : Int)) := hj.1.cell 6 _ rfl; have q0 : wx.cell? ⟨w0.heap.size, 0, none⟩ = some (.int .i64 op') := hj.2.1.cell 0 _ rfl; have q1 : wx.cell? ⟨w0.heap.size, 1, none⟩ = some (.int .u64 ((wd f' 0 : Nat) : Int)) := hj.2.1.cell 1 _ rfl; have q2 : wx.cell? ⟨w0.heap.size, 2, none⟩ = some (.int .u64 ((wd f' 1 : Nat) : Int)) := hj.2.1.cell 2 _ rfl; have q3 : wx.cell? ⟨w0.heap.size, 3, none⟩ = some (.int .u64 ((wd f' 2 : Nat) : Int)) := hj.2.1.cell 3 _ rfl; have q4 : wx.cell? ⟨w0.heap.size, 4, none⟩ = some (.int .u64 ((wd f' 3 : Nat) : Int)) := hj.2.1.cell 4 _ rfl; have q5 : wx.cell? ⟨w0.heap.size, 5, none⟩ = some (.int .i64 mn') := hj.2.1.cell 5 _ rfl; have q6 : wx.cell? ⟨w0.heap.size, 6, none⟩ = some (.int .i64 mx') := hj.2.1.cell 6 _ rfl; have q7 : wx.cell? ⟨w0.heap.size, 7, none⟩ = some (.slice ka kn kc) := hj.2.1.cell 7 _ rfl; go_simp; refine hK _ _ ?_ (Below.refl _ _); apply Rg.mk))) ?_ rfl
  refine Rg.build_end fun wx hj => ?_
  refine Rg.fin_eq rfl ?_
  refine Rg.fin_eq rfl ?_
  refine Rg.fin_eq rfl ?_
  refine Rg.fin_eq rfl ?_
  first | refine Rg.fin_eq rfl ?_ | refine Rg.fin_any rfl fun v55 h55 => ?_
  refine Rg.fin_eq rfl ?_
  refine Rg.fin_nil ?_
  simp only [List.set_cons_zero, List.set_cons_succ]
  have HJ := Lib.hid hj.2.2.2
  clear hj
  go_wp2_with fail
  rw [rounds_succ]
  go_wp2_with fail
  all_goals (go_returns; exact ⟨by refine congrArg (fun z => Ending.returned (Value.int .i64 z)) ?_; omega, HJ.out⟩)
theorem least_any (p : Pat) : Wf p → LeastC p := by
  refine Pat.ind (M := fun p => Wf p → LeastC p) ?_ ?_ ?_ ?_ p
  · exact fun f _ => least_one f
  · intro l ih hw
    cases hw with | cat _ h h2 h3 => exact least_cat l h3 fun p hp => ih p hp (h p hp)
  · intro l ih hw
    cases hw with | alt _ h h2 h3 => exact least_alt l h3 fun p hp => ih p hp (h p hp)
  · intro mn mx p ih hw
    cases hw with | rep _ _ _ h h1 h2 h3 => exact least_rep mn mx p (by omega) (by omega) (ih h)
/-- what lang.Most does with a pattern -/
def MostC (p : Pat) : Prop := ∀ (w : World) (a : Option Addr) (n c : Nat), NAt w p.tree (.slice a n c) → Calls Tryz.prog 16 #[nodeV p.tree (.slice a n c)] w fun e w' => e = .returned (.int .i64 (mostP p : Int)) ∧ Below w.heap.size w w'
set_option maxRecDepth 100000 in
theorem most_one (f : Nat → Bool) : MostC (.one f) := by
  intro w a n c h
  show Calls Tryz.prog 16 #[.agg #[.int .i64 1, .int .u64 ((wd f 0 : Nat) : Int), .int .u64 ((wd f 1 : Nat) : Int), .int .u64 ((wd f 2 : Nat) : Int), .int .u64 ((wd f 3 : Nat) : Int), .int .i64 0, .int .i64 0, .slice a n c]] w _
  go_enter Tryz.func16, Tryz.ntmps16
  go_wp2
  go_returns
  exact ⟨rfl, by go_grown⟩
set_option maxRecDepth 100000 in
set_option maxHeartbeats 800000 in
theorem most_cat (l : List Pat) (hl : l.length ≤ 1000) (ih : ∀ p ∈ l, MostC p) : MostC (.cat l) := by
  intro w a n c h
  obtain rfl : n = l.length := by
    obtain ⟨a', c', hn⟩ := KAt.slice h
    injection hn with _ hn _
    rw [trees_len] at hn; exact hn
  have H := Lib.hid h
  have hX : (mostP (.cat l) : Int) = min (mostC l : Int) 1000 := by rw [mostP]; omega
  have hY := mostC_le l
  have HX := Lib.hid hX
  have hlI : (l.length : Int) ≤ 1000 := by omega
  clear h hX
  show Calls Tryz.prog 16 #[.agg #[.int .i64 2, .int .u64 ((wd emp 0 : Nat) : Int), .int .u64 ((wd emp 1 : Nat) : Int), .int .u64 ((wd emp 2 : Nat) : Int), .int .u64 ((wd emp 3 : Nat) : Int), .int .i64 0, .int .i64 0, .slice a l.length c]] w _
  rw [HX.out]
  go_enter Tryz.func16, Tryz.ntmps16
  go_wp2_with fail
  go_loopw [3, 19] (fun out i wr => ∃ k : Nat, k ≤ l.length ∧ i = .int .i64 k ∧ out = .int .i64 ((mostC (l.take k) : Nat) : Int) ∧ Below w.heap.size w wr) (fun _ i _ => l.length - (intOf i).toNat)
  case atStart => exact ⟨0, Nat.zero_le _, rfl, by simp [mostC], by go_grown⟩
  case round =>
    obtain ⟨k, hk, rfl, rfl, hb⟩ := hrel
    by_cases hlt : k < l.length
    · obtain ⟨b, off, cap, heq, hcap, op', f', mn', mx', kids', ka, kc, ht, hc8, hkn⟩ := kid_at (H.out.below hb) (trees_get hlt)
      injection heq with e1 e2 e3
      subst e1; subst e3
      clear e2
      rw [trees_len] at hcap
      have hI := ih l[k] (List.getElem_mem hlt)
      unfold MostC at hI
      rw [ht] at hI hkn
      have hS := mostC_snoc l k hlt
      have hB1 := mostC_le (l.take k)
      have hB2 := mostP_le l[k]
      have htk : (l.take k).length = k := by simp; omega
      generalize mostP l[k] = m at *
      generalize hq : mostC (l.take k) = q at *
      have HS := Lib.hid hS; have HB := Lib.hid hb; have HKN := Lib.hid (hkn.alloc (.cells (nodeC op' f' mn' mx' (.slice ka kids'.length kc)) 41))
      have hI2 := fun w h => hI w ka kids'.length kc h
      unfold nodeV at hI2
      have HI := Lib.hid hI2
      obtain ⟨c0, c1, c2, c3, c4, c5, c6, c7⟩ := hc8
      obtain ⟨kn, hkl⟩ : ∃ kn, kn = kids'.length := ⟨_, rfl⟩
      rw [← hkl] at c7 HKN HI
      have hm1 : (m : Int) ≤ 1000 := by omega
      have hq1 : (q : Int) ≤ 1000000 := by omega
      clear hS hb hkn hI hI2 hkl ht hq hB1 hB2 htk
      go_wp2_with fail
      refine (HI.out _ HKN.out).mono ?_
      rintro e9 w9 ⟨rfl, hb9⟩
      have HB9 := Lib.hid ((HB.out.alloc HB.out.size (.cells (nodeC op' f' mn' mx' (.slice ka kn kc)) 41)).trans (hb9.mono (by have := HB.out.size; simp; omega)))
      clear hb9
      go_wp2_with fail
      exact ⟨⟨k + 1, by omega, by go_num, by rw [HS.out]; go_num, HB9.out⟩, by simp [intOf]; omega⟩
    · obtain rfl : k = l.length := by omega
      rw [List.take_length]
      have HB := Lib.hid hb; clear hb
      go_wp2_with fail
      all_goals (go_returns; exact ⟨by refine congrArg (fun z => Ending.returned (Value.int .i64 z)) ?_; omega, HB.out⟩)
set_option maxRecDepth 100000 in
set_option maxHeartbeats 800000 in
theorem most_alt (l : List Pat) (hl : l.length ≤ 1000) (ih : ∀ p ∈ l, MostC p) : MostC (.alt l) := by
  intro w a n c h
  obtain rfl : n = l.length := by
    obtain ⟨a', c', hn⟩ := KAt.slice h
    injection hn with _ hn _
    rw [trees_len] at hn; exact hn
  have H := Lib.hid h
  have hX : (mostP (.alt l) : Int) = min (mostA l : Int) 1000 := by rw [mostP]; omega
  have hY := mostA_le l
  have HX := Lib.hid hX
  have hlI : (l.length : Int) ≤ 1000 := by omega
  clear h hX
  show Calls Tryz.prog 16 #[.agg #[.int .i64 3, .int .u64 ((wd emp 0 : Nat) : Int), .int .u64 ((wd emp 1 : Nat) : Int), .int .u64 ((wd emp 2 : Nat) : Int), .int .u64 ((wd emp 3 : Nat) : Int), .int .i64 0, .int .i64 0, .slice a l.length c]] w _
  rw [HX.out]
  go_enter Tryz.func16, Tryz.ntmps16
  go_wp2_with fail
  go_loopw [3, 33] (fun out i wr => ∃ k : Nat, k ≤ l.length ∧ i = .int .i64 k ∧ out = .int .i64 ((mostA (l.take k) : Nat) : Int) ∧ Below w.heap.size w wr) (fun _ i _ => l.length - (intOf i).toNat)
  case atStart => exact ⟨0, Nat.zero_le _, rfl, by simp [mostA], by go_grown⟩
  case round =>
    obtain ⟨k, hk, rfl, rfl, hb⟩ := hrel
    by_cases hlt : k < l.length
    · obtain ⟨b, off, cap, heq, hcap, op', f', mn', mx', kids', ka, kc, ht, hc8, hkn⟩ := kid_at (H.out.below hb) (trees_get hlt)
      injection heq with e1 e2 e3
      subst e1; subst e3
      clear e2
      rw [trees_len] at hcap
      have hI := ih l[k] (List.getElem_mem hlt)
      unfold MostC at hI
      rw [ht] at hI hkn
      have hS := mostA_snoc l k hlt
      have hB1 := mostA_le (l.take k)
      have hB2 := mostP_le l[k]
      have htk : (l.take k).length = k := by simp; omega
      generalize mostP l[k] = m at *
      generalize hq : mostA (l.take k) = q at *
      have HS := Lib.hid hS; have HB := Lib.hid hb; have HKN := Lib.hid (hkn.alloc (.cells (nodeC op' f' mn' mx' (.slice ka kids'.length kc)) 41))
      have hI2 := fun w h => hI w ka kids'.length kc h
      unfold nodeV at hI2
      have HI := Lib.hid hI2
      obtain ⟨c0, c1, c2, c3, c4, c5, c6, c7⟩ := hc8
      obtain ⟨kn, hkl⟩ : ∃ kn, kn = kids'.length := ⟨_, rfl⟩
      rw [← hkl] at c7 HKN HI
      have hm1 : (m : Int) ≤ 1000 := by omega
      have hq1 : (q : Int) ≤ 1000000 := by omega
      clear hS hb hkn hI hI2 hkl ht hq hB1 hB2 htk
      go_wp2_with fail
      refine (HI.out _ HKN.out).mono ?_
      rintro e9 w9 ⟨rfl, hb9⟩
      have HB9 := Lib.hid ((HB.out.alloc HB.out.size (.cells (nodeC op' f' mn' mx' (.slice ka kn kc)) 41)).trans (hb9.mono (by have := HB.out.size; simp; omega)))
      clear hb9
      go_wp2_with fail
      exact ⟨⟨k + 1, by omega, by go_num, by rw [HS.out]; congr 1; omega, HB9.out⟩, by simp [intOf]; omega⟩
    · obtain rfl : k = l.length := by omega
      rw [List.take_length]
      have HB := Lib.hid hb; clear hb
      go_wp2_with fail
      all_goals (go_returns; exact ⟨by refine congrArg (fun z => Ending.returned (Value.int .i64 z)) ?_; omega, HB.out⟩)
set_option maxRecDepth 100000 in
set_option maxHeartbeats 1600000 in
theorem most_rep (mn mx : Nat) (p : Pat) (h1 : mn ≤ 1000) (h2 : mx ≤ 1000) (ih : MostC p) : MostC (.rep mn mx p) := by
  intro w a n c h
  obtain rfl : n = 1 := by
    obtain ⟨a', c', hn⟩ := KAt.slice h
    injection hn with _ hn _
  have H := Lib.hid (NAt.alloc h (.cells (nodeC 4 emp (mn : Int) (mx : Int) (.slice a 1 c)) 41))
  have hX : (mostP (.rep mn mx p) : Int) = min ((mx : Int) * (mostP p : Int)) 1000 := by rw [mostP]; push_cast; omega
  have HX := Lib.hid hX
  clear hX h
  have HA := Lib.hid (AtG.new w 41 (nodeC 4 emp (mn : Int) (mx : Int) (.slice a 1 c)))
  have HB0 := Lib.hid ((Below.refl w.heap.size w).alloc (Nat.le_refl _) (.cells (nodeC 4 emp (mn : Int) (mx : Int) (.slice a 1 c)) 41))
  show Calls Tryz.prog 16 #[.agg #[.int .i64 4, .int .u64 ((wd emp 0 : Nat) : Int), .int .u64 ((wd emp 1 : Nat) : Int), .int .u64 ((wd emp 2 : Nat) : Int), .int .u64 ((wd emp 3 : Nat) : Int), .int .i64 (mn : Int), .int .i64 (mx : Int), .slice a 1 c]] w _
  rw [HX.out]
  unfold MostC at ih
  have hB2 := mostP_le p
  generalize mostP p = m at *
  go_enter Tryz.func16, Tryz.ntmps16
  go_wp2_with fail
  refine wp_loop_rounds 2 ?_
  rw [rounds_succ]
  obtain ⟨b, off, cap, heq, hcap, op', f', mn', mx', kids', ka, kc, ht, hc8, hkn⟩ := kid_at (j := 0) (t := p.tree) H.out rfl
  injection heq with e1 e2 e3
  subst e1; subst e3
  clear e2
  rw [ht] at ih hkn
  obtain ⟨w0, hw0⟩ : ∃ w0 : World, w0 = w.alloc (.cells (nodeC 4 emp (mn : Int) (mx : Int) (.slice (some ⟨b, off, none⟩) 1 c)) 41) := ⟨_, rfl⟩
  have hw0' : w.alloc (.cells #[.int .i64 4, .int .u64 ((wd emp 0 : Nat) : Int), .int .u64 ((wd emp 1 : Nat) : Int), .int .u64 ((wd emp 2 : Nat) : Int), .int .u64 ((wd emp 3 : Nat) : Int), .int .i64 (mn : Int), .int .i64 (mx : Int), .slice (some ⟨b, off, none⟩) 1 c] 41) = w0 := hw0.symm
  rw [hw0']
  rw [← hw0] at hc8 hkn HA HB0 H
  have hsz : w0.heap.size = w.heap.size + 1 := by rw [hw0]; simp
  have hin2 := fun w h => ih w ka kids'.length kc h
  unfold nodeV at hin2
  have HI := Lib.hid hin2
  have HKN := Lib.hid (hkn.alloc (.cells (nodeC op' f' mn' mx' (.slice ka kids'.length kc)) 41))
  obtain ⟨c0, c1, c2, c3, c4, c5, c6, c7⟩ := hc8
  have hz8 : off + 0 * 8 = off := by omega
  rw [hz8] at c0 c1 c2 c3 c4 c5 c6 c7
  have HA2 := Lib.hid (HA.out.alloc (.cells (nodeC op' f' mn' mx' (.slice ka kids'.length kc)) 41))
  have HB2 := Lib.hid (HB0.out.alloc (by omega) (.cells (nodeC op' f' mn' mx' (.slice ka kids'.length kc)) 41))
  obtain ⟨kn, hkl⟩ : ∃ kn, kn = kids'.length := ⟨_, rfl⟩
  rw [← hkl] at c7 HKN HI HA2 HB2
  have HSZ := Lib.hid hsz
  have hm1 : (m : Int) ≤ 1000 := by omega
  have hml : (mx : Int) * (m : Int) ≤ 1000000 := by
    have : mx * m ≤ 1000 * 1000 := Nat.mul_le_mul (by omega) (by omega)
    have h3 : ((mx * m : Nat) : Int) ≤ 1000000 := by omega
    rwa [Int.natCast_mul] at h3
  have hml0 : 0 ≤ (mx : Int) * (m : Int) := Int.mul_nonneg (Int.natCast_nonneg _) (Int.natCast_nonneg _)
  clear ih hin2 hkn ht hkl hw0' hw0 hz8 hcap hsz hB2
  go_upto_region 21 with (fail)
  obtain ⟨w1, hw1⟩ : ∃ w1 : World, w1 = w0.alloc (.cells (nodeC op' f' mn' mx' (.slice ka kn kc)) 41) := ⟨_, rfl⟩
  have hw1' : w0.alloc (.cells #[.int .i64 op', .int .u64 ((wd f' 0 : Nat) : Int), .int .u64 ((wd f' 1 : Nat) : Int), .int .u64 ((wd f' 2 : Nat) : Int), .int .u64 ((wd f' 3 : Nat) : Int), .int .i64 mn', .int .i64 mx', .slice ka kn kc] 41) = w1 := hw1.symm
  rw [hw1']
  have HN := Lib.hid (AtG.new w0 41 (nodeC op' f' mn' mx' (.slice ka kn kc)))
  rw [← hw1] at HKN HA2 HB2 HN
  clear hw1 hw1' c0 c1 c2 c3 c4 c5 c6 c7
  refine Rg.wp_region_each (by kernel_rfl) (fun w' => AtG w' w.heap.size 41 (nodeC 4 emp (mn : Int) (mx : Int) (.slice (some ⟨b, off, none⟩) 1 c)) ∧ AtG w' w0.heap.size 41 (nodeC op' f' mn' mx' (.slice ka kn kc)) ∧ NAt w' (.node op' f' mn' mx' kids') (.slice ka kn kc) ∧ Below w.heap.size w w') (fun w1 w2 h hb => ⟨h.1.below hb, h.2.1.below hb, h.2.2.1.below hb, h.2.2.2.trans (hb.mono h.2.2.2.size)⟩) (by kernel_rfl) (by kernel_rfl) (⟨HA2.out, HN.out, HKN.out, HB2.out⟩) ?_
  show Rg.Build _ _ _ _ _ 0 [_, _, _, _, _, _] []
  refine Rg.build_cons (m := 1) (r := Rg.eq _) (Rg.one_plain (by rfl) (by (intro ax wx hk Kx hK; have k1 := hk.base 1 _ rfl rfl; have hj := hk.j; clear hk; have m5 : wx.cell? ⟨w.heap.size, 5, none⟩ = some (.int .i64 (mn : Int)) := hj.1.cell 5 _ rfl; have m6 : wx.cell? ⟨w.heap.size, 6, none⟩ = some (.int .i64 (mx : Int)) := hj.1.cell 6 _ rfl; have q0 : wx.cell? ⟨w0.heap.size, 0, none⟩ = some (.int .i64 op') := hj.2.1.cell 0 _ rfl; have q1 : wx.cell? ⟨w0.heap.size, 1, none⟩ = some (.int .u64 ((wd f' 0 : Nat) : Int)) := hj.2.1.cell 1 _ rfl; have q2 : wx.cell? ⟨w0.heap.size, 2, none⟩ = some (.int .u64 ((wd f' 1 : Nat) : Int)) := hj.2.1.cell 2 _ rfl; have q3 : wx.cell? ⟨w0.heap.size, 3, none⟩ = some (.int .u64 ((wd f' 2 : Nat) : Int)) := hj.2.1.cell 3 _ rfl; have q4 : wx.cell? ⟨w0.heap.size, 4, none⟩ = some (.int .u64 ((wd f' 3 : Nat) : Int)) := hj.2.1.cell 4 _ rfl; have q5 : wx.cell? ⟨w0.heap.size, 5, none⟩ = some (.int .i64 mn') := hj.2.1.cell 5 _ rfl; have q6 : wx.cell? ⟨w0.heap.size, 6, none⟩ = some (.int .i64 mx') := hj.2.1.cell 6 _ rfl; have q7 : wx.cell? ⟨w0.heap.size, 7, none⟩ = some (.slice ka kn kc) := hj.2.1.cell 7 _ rfl; go_simp; refine hK _ _ ?_ (Below.refl _ _); apply Rg.mk))) ?_ rfl
  refine Rg.build_cons (m := 2) (r := Rg.eq _) (Rg.one_plain (by rfl) (by (intro ax wx hk Kx hK; obtain ⟨v51, k51, h51⟩ := hk.dep 0 51 _ rfl rfl rfl; (first | (cases (h51 : v51 = _)) | (obtain ⟨rfl, h51⟩ := h51) | skip); have hj := hk.j; clear hk; have m5 : wx.cell? ⟨w.heap.size, 5, none⟩ = some (.int .i64 (mn : Int)) := hj.1.cell 5 _ rfl; have m6 : wx.cell? ⟨w.heap.size, 6, none⟩ = some (.int .i64 (mx : Int)) := hj.1.cell 6 _ rfl; have q0 : wx.cell? ⟨w0.heap.size, 0, none⟩ = some (.int .i64 op') := hj.2.1.cell 0 _ rfl; have q1 : wx.cell? ⟨w0.heap.size, 1, none⟩ = some (.int .u64 ((wd f' 0 : Nat) : Int)) := hj.2.1.cell 1 _ rfl; have q2 : wx.cell? ⟨w0.heap.size, 2, none⟩ = some (.int .u64 ((wd f' 1 : Nat) : Int)) := hj.2.1.cell 2 _ rfl; have q3 : wx.cell? ⟨w0.heap.size, 3, none⟩ = some (.int .u64 ((wd f' 2 : Nat) : Int)) := hj.2.1.cell 3 _ rfl; have q4 : wx.cell? ⟨w0.heap.size, 4, none⟩ = some (.int .u64 ((wd f' 3 : Nat) : Int)) := hj.2.1.cell 4 _ rfl; have q5 : wx.cell? ⟨w0.heap.size, 5, none⟩ = some (.int .i64 mn') := hj.2.1.cell 5 _ rfl; have q6 : wx.cell? ⟨w0.heap.size, 6, none⟩ = some (.int .i64 mx') := hj.2.1.cell 6 _ rfl; have q7 : wx.cell? ⟨w0.heap.size, 7, none⟩ = some (.slice ka kn kc) := hj.2.1.cell 7 _ rfl; go_simp; refine hK _ _ ?_ (Below.refl _ _); apply Rg.mk))) ?_ rfl
  refine Rg.build_cons (m := 3) (r := Rg.eq _) (Rg.one_plain (by rfl) (by (intro ax wx hk Kx hK; have k9 := hk.base 9 _ rfl rfl; have hj := hk.j; clear hk; have m5 : wx.cell? ⟨w.heap.size, 5, none⟩ = some (.int .i64 (mn : Int)) := hj.1.cell 5 _ rfl; have m6 : wx.cell? ⟨w.heap.size, 6, none⟩ = some (.int .i64 (mx : Int)) := hj.1.cell 6 _ rfl; have q0 : wx.cell? ⟨w0.heap.size, 0, none⟩ = some (.int .i64 op') := hj.2.1.cell 0 _ rfl; have q1 : wx.cell? ⟨w0.heap.size, 1, none⟩ = some (.int .u64 ((wd f' 0 : Nat) : Int)) := hj.2.1.cell 1 _ rfl; have q2 : wx.cell? ⟨w0.heap.size, 2, none⟩ = some (.int .u64 ((wd f' 1 : Nat) : Int)) := hj.2.1.cell 2 _ rfl; have q3 : wx.cell? ⟨w0.heap.size, 3, none⟩ = some (.int .u64 ((wd f' 2 : Nat) : Int)) := hj.2.1.cell 3 _ rfl; have q4 : wx.cell? ⟨w0.heap.size, 4, none⟩ = some (.int .u64 ((wd f' 3 : Nat) : Int)) := hj.2.1.cell 4 _ rfl; have q5 : wx.cell? ⟨w0.heap.size, 5, none⟩ = some (.int .i64 mn') := hj.2.1.cell 5 _ rfl; have q6 : wx.cell? ⟨w0.heap.size, 6, none⟩ = some (.int .i64 mx') := hj.2.1.cell 6 _ rfl; have q7 : wx.cell? ⟨w0.heap.size, 7, none⟩ = some (.slice ka kn kc) := hj.2.1.cell 7 _ rfl; go_simp; refine hK _ _ ?_ (Below.refl _ _); apply Rg.mk))) ?_ rfl
  refine Rg.build_cons (m := 4) (r := Rg.eq _) (Rg.one_plain (by rfl) (by (intro ax wx hk Kx hK; obtain ⟨v53, k53, h53⟩ := hk.dep 2 53 _ rfl rfl rfl; (first | (cases (h53 : v53 = _)) | (obtain ⟨rfl, h53⟩ := h53) | skip); have hj := hk.j; clear hk; have m5 : wx.cell? ⟨w.heap.size, 5, none⟩ = some (.int .i64 (mn : Int)) := hj.1.cell 5 _ rfl; have m6 : wx.cell? ⟨w.heap.size, 6, none⟩ = some (.int .i64 (mx : Int)) := hj.1.cell 6 _ rfl; have q0 : wx.cell? ⟨w0.heap.size, 0, none⟩ = some (.int .i64 op') := hj.2.1.cell 0 _ rfl; have q1 : wx.cell? ⟨w0.heap.size, 1, none⟩ = some (.int .u64 ((wd f' 0 : Nat) : Int)) := hj.2.1.cell 1 _ rfl; have q2 : wx.cell? ⟨w0.heap.size, 2, none⟩ = some (.int .u64 ((wd f' 1 : Nat) : Int)) := hj.2.1.cell 2 _ rfl; have q3 : wx.cell? ⟨w0.heap.size, 3, none⟩ = some (.int .u64 ((wd f' 2 : Nat) : Int)) := hj.2.1.cell 3 _ rfl; have q4 : wx.cell? ⟨w0.heap.size, 4, none⟩ = some (.int .u64 ((wd f' 3 : Nat) : Int)) := hj.2.1.cell 4 _ rfl; have q5 : wx.cell? ⟨w0.heap.size, 5, none⟩ = some (.int .i64 mn') := hj.2.1.cell 5 _ rfl; have q6 : wx.cell? ⟨w0.heap.size, 6, none⟩ = some (.int .i64 mx') := hj.2.1.cell 6 _ rfl; have q7 : wx.cell? ⟨w0.heap.size, 7, none⟩ = some (.slice ka kn kc) := hj.2.1.cell 7 _ rfl; go_simp; refine (HI.out _ hj.2.2.1).mono ?_; rintro e w' ⟨rfl, hb⟩; refine hK _ _ ?_ hb; apply Rg.mk))) ?_ rfl
  refine Rg.build_cons (m := 5) (r := Rg.eq (.int .i64 ((mx : Int) * (m : Int)))) (Rg.one_plain (by rfl) (by (intro ax wx hk Kx hK; obtain ⟨v52, k52, h52⟩ := hk.dep 1 52 _ rfl rfl rfl; (first | (cases (h52 : v52 = _)) | (obtain ⟨rfl, h52⟩ := h52) | skip); obtain ⟨v54, k54, h54⟩ := hk.dep 3 54 _ rfl rfl rfl; (first | (cases (h54 : v54 = _)) | (obtain ⟨rfl, h54⟩ := h54) | skip); have hj := hk.j; clear hk; have m5 : wx.cell? ⟨w.heap.size, 5, none⟩ = some (.int .i64 (mn : Int)) := hj.1.cell 5 _ rfl; have m6 : wx.cell? ⟨w.heap.size, 6, none⟩ = some (.int .i64 (mx : Int)) := hj.1.cell 6 _ rfl; have q0 : wx.cell? ⟨w0.heap.size, 0, none⟩ = some (.int .i64 op') := hj.2.1.cell 0 _ rfl; have q1 : wx.cell? ⟨w0.heap.size, 1, none⟩ = some (.int .u64 ((wd f' 0 : Nat) : Int)) := hj.2.1.cell 1 _ rfl; have q2 : wx.cell? ⟨w0.heap.size, 2, none⟩ = some (.int .u64 ((wd f' 1 : Nat) : Int)) := hj.2.1.cell 2 _ rfl; have q3 : wx.cell? ⟨w0.heap.size, 3, none⟩ = some (.int .u64 ((wd f' 2 : Nat) : Int)) := hj.2.1.cell 3 _ rfl; have q4 : wx.cell? ⟨w0.heap.size, 4, none⟩ = some (.int .u64 ((wd f' 3 : Nat) : Int)) := hj.2.1.cell 4 _ rfl; have q5 : wx.cell? ⟨w0.heap.size, 5, none⟩ = some (.int .i64 mn') := hj.2.1.cell 5 _ rfl; have q6 : wx.cell? ⟨w0.heap.size, 6, none⟩ = some (.int .i64 mx') := hj.2.1.cell 6 _ rfl; have q7 : wx.cell? ⟨w0.heap.size, 7, none⟩ = some (.slice ka kn kc) := hj.2.1.cell 7 _ rfl; (go_simp; refine hK _ _ ?_ (Below.refl _ _); simp [Rg.eq, IntKind.wrap_i64]; try omega)))) ?_ rfl
  refine Rg.build_cons (m := 6) (r := Rg.eq _) (Rg.one_plain (by rfl) (by (intro ax wx hk Kx hK; obtain ⟨v55, k55, h55⟩ := hk.dep 4 55 _ rfl rfl rfl; (first | (cases (h55 : v55 = _)) | (obtain ⟨rfl, h55⟩ := h55) | skip); have hj := hk.j; clear hk; have m5 : wx.cell? ⟨w.heap.size, 5, none⟩ = some (.int .i64 (mn : Int)) := hj.1.cell 5 _ rfl; have m6 : wx.cell? ⟨w.heap.size, 6, none⟩ = some (.int .i64 (mx : Int)) := hj.1.cell 6 _ rfl; have q0 : wx.cell? ⟨w0.heap.size, 0, none⟩ = some (.int .i64 op') := hj.2.1.cell 0 _ rfl; have q1 : wx.cell? ⟨w0.heap.size, 1, none⟩ = some (.int .u64 ((wd f' 0 : Nat) : Int)) := hj.2.1.cell 1 _ rfl; have q2 : wx.cell? ⟨w0.heap.size, 2, none⟩ = some (.int .u64 ((wd f' 1 : Nat) : Int)) := hj.2.1.cell 2 _ rfl; have q3 : wx.cell? ⟨w0.heap.size, 3, none⟩ = some (.int .u64 ((wd f' 2 : Nat) : Int)) := hj.2.1.cell 3 _ rfl; have q4 : wx.cell? ⟨w0.heap.size, 4, none⟩ = some (.int .u64 ((wd f' 3 : Nat) : Int)) := hj.2.1.cell 4 _ rfl; have q5 : wx.cell? ⟨w0.heap.size, 5, none⟩ = some (.int .i64 mn') := hj.2.1.cell 5 _ rfl; have q6 : wx.cell? ⟨w0.heap.size, 6, none⟩ = some (.int .i64 mx') := hj.2.1.cell 6 _ rfl; have q7 : wx.cell? ⟨w0.heap.size, 7, none⟩ = some (.slice ka kn kc) := hj.2.1.cell 7 _ rfl; go_simp; refine hK _ _ ?_ (Below.refl _ _); apply Rg.mk))) ?_ rfl
  refine Rg.build_end fun wx hj => ?_
  refine Rg.fin_eq rfl ?_
  refine Rg.fin_eq rfl ?_
  refine Rg.fin_eq rfl ?_
  refine Rg.fin_eq rfl ?_
  first | refine Rg.fin_eq rfl ?_ | refine Rg.fin_any rfl fun v55 h55 => ?_
  refine Rg.fin_eq rfl ?_
  refine Rg.fin_nil ?_
  simp only [List.set_cons_zero, List.set_cons_succ]
  have HJ := Lib.hid hj.2.2.2
  clear hj
  go_wp2_with fail
  rw [rounds_succ]
  go_wp2_with fail
  all_goals (go_returns; exact ⟨by refine congrArg (fun z => Ending.returned (Value.int .i64 z)) ?_; omega, HJ.out⟩)
theorem most_any (p : Pat) : Wf p → MostC p := by
  refine Pat.ind (M := fun p => Wf p → MostC p) ?_ ?_ ?_ ?_ p
  · exact fun f _ => most_one f
  · intro l ih hw
    cases hw with | cat _ h h2 h3 => exact most_cat l h3 fun p hp => ih p hp (h p hp)
  · intro l ih hw
    cases hw with | alt _ h h2 h3 => exact most_alt l h3 fun p hp => ih p hp (h p hp)
  · intro mn mx p ih hw
    cases hw with | rep _ _ _ h h1 h2 h3 => exact most_rep mn mx p (by omega) (by omega) (ih h)
end Go.Proofs.YtgjcibhhffkemaaGreatDoor
/- What is amiss with a pattern (the program's). -/
set_option linter.unusedVariables false
set_option linter.unusedSimpArgs false
namespace Go.Proofs.YtgjcibhhffkemaaGreatDoor
open Go.RowKit Bt Fl
/-- what is amiss with a pattern, with words of at most L bytes, and M for the mask -/
def AmRes (p : Pat) (L M cd : Int) : Prop := (Mt (byt []) 0 p 0 0 ∧ cd = 5) ∨ (¬ Mt (byt []) 0 p 0 0 ∧ L < mostP p ∧ cd = 6) ∨ (¬ Mt (byt []) 0 p 0 0 ∧ ¬ L < mostP p ∧ anyP p M.toNat = true ∧ cd = 7) ∨ (¬ Mt (byt []) 0 p 0 0 ∧ ¬ L < mostP p ∧ anyP p M.toNat = false ∧ cd = 0)
theorem AmRes.det {p : Pat} {L M c c' : Int} (h : AmRes p L M c) (h' : AmRes p L M c') : c = c' := by
  rcases h with ⟨a, rfl⟩ | ⟨a, b, rfl⟩ | ⟨a, b, d, rfl⟩ | ⟨a, b, d, rfl⟩ <;> rcases h' with ⟨a', rfl⟩ | ⟨a', b', rfl⟩ | ⟨a', b', d', rfl⟩ | ⟨a', b', d', rfl⟩ <;> first | rfl | (exact absurd a' a) | (exact absurd a a') | (exact absurd b' b) | (exact absurd b b') | (rw [d] at d'; cases d')
set_option maxRecDepth 100000 in
set_option maxHeartbeats 1600000 in
theorem amissX (p : Pat) (hp : Wf p) (L Q C : Int) (R : Nat) (M : Int) (hM0 : 0 ≤ M) (hM1 : M ≤ 255) (w : World) (a : Option Addr) (m c : Nat) (hn : NAt w p.tree (.slice a m c)) :
    Calls Tryz.prog 25 #[nodeV p.tree (.slice a m c), cfgV L Q C R M] w fun e w' => Below w.heap.size w w' ∧ ∃ cd, AmRes p L M cd ∧ e = .returned (.int .i64 cd) := by
  have hkeep := fun (w' : World) (hb : Below w.heap.size w w') => hn.below hb
  have hH := fun (w' : World) (hb : Below w.heap.size w w') => hasP_any p hp w' a m c (.slice none 0 0) [] (hkeep w' hb) (.inl ⟨rfl, none, 0, rfl⟩) (by simp)
  have hMo := fun (w' : World) (hb : Below w.heap.size w w') => most_any p hp w' a m c (hkeep w' hb)
  have hAn := fun (w' : World) (hb : Below w.heap.size w w') => pAny_any p hp w' a m c (hkeep w' hb)
  have HSH := Lib.hid (fun w' => has_any (anyP p) M w' hM0 hM1)
  have HMT : Hid (∀ r : Bool, (r = true ↔ Mt (byt []) ([] : List Int).length p 0 ([] : List Int).length) → (r = true ∧ AmRes p L M 5) ∨ (r = false ∧ (L < mostP p → AmRes p L M 6) ∧ (¬ L < mostP p → anyP p M.toNat = true → AmRes p L M 7) ∧ (¬ L < mostP p → anyP p M.toNat = false → AmRes p L M 0))) := Lib.hid (fun r hr => by
    cases r
    · have hno : ¬ Mt (byt []) 0 p 0 0 := fun h => by have := hr.2 h; cases this
      exact .inr ⟨rfl, fun h => .inr (.inl ⟨hno, h, rfl⟩), fun h h1 => .inr (.inr (.inl ⟨hno, h, h1, rfl⟩)), fun h h1 => .inr (.inr (.inr ⟨hno, h, h1, rfl⟩))⟩
    · exact .inl ⟨rfl, .inl ⟨hr.1 rfl, rfl⟩⟩)
  rcases hpt : p.tree with ⟨op, f, mn, mx, kids⟩
  rw [hpt] at hH hMo hAn
  unfold nodeV at hH hMo hAn ⊢
  dsimp only at hH hMo hAn ⊢
  have HH := Lib.hid hH; have HMO := Lib.hid hMo; have HAN := Lib.hid hAn
  obtain ⟨any, hany⟩ : ∃ any, anyP p = any := ⟨_, rfl⟩
  obtain ⟨mo, hmo⟩ : ∃ mo, mostP p = mo := ⟨_, rfl⟩
  rw [hmo] at HMO HMT
  rw [hany] at HAN HSH HMT
  clear hH hMo hAn hkeep hn hpt hany hmo hp
  unfold cfgV
  go_enter Tryz.func25, Tryz.ntmps25
  go_upto_region 1 with (fail)
  refine (show ∀ W : World, W = (w.alloc (.cells (nodeC op f mn mx (.slice a m c)) 41)).alloc (.cells (cfgC L Q C R M) 24) → _ from fun W hW => ?_) _ rfl
  have HN : Hid (AtG W w.heap.size 41 (nodeC op f mn mx (.slice a m c))) := Lib.hid (by rw [hW]; exact (AtG.new _ _ _).alloc _)
  have HC : Hid (AtG W (w.heap.size + 1) 24 (cfgC L Q C R M)) := Lib.hid (by
    rw [hW]
    have := AtG.new (w.alloc (.cells (nodeC op f mn mx (.slice a m c)) 41)) 24 (cfgC L Q C R M)
    simpa using this)
  have HB : Hid (Below w.heap.size w W) := Lib.hid (by rw [hW]; go_grown)
  clear hW
  have k0 : (W).cell? ⟨w.heap.size, 0, none⟩ = some (.int .i64 op) := (HN.out).cell 0 _ rfl
  have k1 : (W).cell? ⟨w.heap.size, 1, none⟩ = some (.int .u64 ((wd f 0 : Nat) : Int)) := (HN.out).cell 1 _ rfl
  have k2 : (W).cell? ⟨w.heap.size, 2, none⟩ = some (.int .u64 ((wd f 1 : Nat) : Int)) := (HN.out).cell 2 _ rfl
  have k3 : (W).cell? ⟨w.heap.size, 3, none⟩ = some (.int .u64 ((wd f 2 : Nat) : Int)) := (HN.out).cell 3 _ rfl
  have k4 : (W).cell? ⟨w.heap.size, 4, none⟩ = some (.int .u64 ((wd f 3 : Nat) : Int)) := (HN.out).cell 4 _ rfl
  have k5 : (W).cell? ⟨w.heap.size, 5, none⟩ = some (.int .i64 mn) := (HN.out).cell 5 _ rfl
  have k6 : (W).cell? ⟨w.heap.size, 6, none⟩ = some (.int .i64 mx) := (HN.out).cell 6 _ rfl
  have k7 : (W).cell? ⟨w.heap.size, 7, none⟩ = some (.slice a m c) := (HN.out).cell 7 _ rfl
  go_wp2_with fail
  refine (HH.out W HB.out).mono ?_
  rintro e9 w1 ⟨hb1, r, rfl, hr⟩
  have HN1 := Lib.hid (HN.out.below hb1); have HC1 := Lib.hid (HC.out.below hb1); have HB1 := Lib.hid (HB.out.trans (hb1.mono HB.out.size))
  clear hb1 k0 k1 k2 k3 k4 k5 k6 k7 HN HC HB HH
  rcases HMT.out r hr with ⟨rfl, h5⟩ | ⟨rfl, h6, h7, h0⟩
  · have H5 := Lib.hid h5
    clear hr h5
    go_wp2_with fail
    go_returns
    exact ⟨HB1.out, 5, H5.out, rfl⟩
  have H6 := Lib.hid h6; have H7 := Lib.hid h7; have H0 := Lib.hid h0
  clear hr h6 h7 h0 HMT
  go_upto_region 3 with (fail)
  refine Rg.wp_region_each (by kernel_rfl) (fun w' => AtG w' w.heap.size 41 (nodeC op f mn mx (.slice a m c)) ∧ AtG w' (w.heap.size + 1) 24 (cfgC L Q C R M) ∧ Below w.heap.size w w') (fun w1 w2 h hb => ⟨h.1.below hb, h.2.1.below hb, h.2.2.trans (hb.mono h.2.2.size)⟩) (by kernel_rfl) (by kernel_rfl) (⟨HN1.out, HC1.out, HB1.out⟩) ?_
  show Rg.Build _ _ _ _ _ 0 [_, _, _, _, _, _] []
  refine Rg.build_cons (m := 1) (r := Rg.eq _) (Rg.one_plain (by rfl) (by (intro ax wx hk Kx hK; have k2 := hk.base 2 _ rfl rfl; have hj := hk.j; clear hk; have q0 := hj.1.cell 0 _ rfl; have q1 := hj.1.cell 1 _ rfl; have q2 := hj.1.cell 2 _ rfl; have q3 := hj.1.cell 3 _ rfl; have q4 := hj.1.cell 4 _ rfl; have q5 := hj.1.cell 5 _ rfl; have q6 := hj.1.cell 6 _ rfl; have q7 := hj.1.cell 7 _ rfl; have p0 := hj.2.1.cell 0 _ rfl; go_simp; refine hK _ _ ?_ (Below.refl _ _); apply Rg.mk))) ?_ rfl
  refine Rg.build_cons (m := 2) (r := Rg.eq _) (Rg.one_plain (by rfl) (by (intro ax wx hk Kx hK; obtain ⟨v9, k9, h9⟩ := hk.dep 0 9 _ rfl rfl rfl; (first | (cases (h9 : v9 = _)) | (obtain ⟨rfl, h9⟩ := h9) | skip); have hj := hk.j; clear hk; go_simp; refine (HMO.out _ hj.2.2).mono ?_; rintro e w' ⟨rfl, hb⟩; refine hK _ _ ?_ hb; apply Rg.mk))) ?_ rfl
  refine Rg.build_cons (m := 3) (r := Rg.eq _) (Rg.one_plain (by rfl) (by (intro ax wx hk Kx hK; have k3 := hk.base 3 _ rfl rfl; have hj := hk.j; clear hk; go_simp; refine hK _ _ ?_ (Below.refl _ _); apply Rg.mk))) ?_ rfl
  refine Rg.build_cons (m := 4) (r := Rg.eq _) (Rg.one_plain (by rfl) (by (intro ax wx hk Kx hK; obtain ⟨v11, k11, h11⟩ := hk.dep 2 11 _ rfl rfl rfl; (first | (cases (h11 : v11 = _)) | (obtain ⟨rfl, h11⟩ := h11) | skip); have hj := hk.j; clear hk; have q0 := hj.1.cell 0 _ rfl; have q1 := hj.1.cell 1 _ rfl; have q2 := hj.1.cell 2 _ rfl; have q3 := hj.1.cell 3 _ rfl; have q4 := hj.1.cell 4 _ rfl; have q5 := hj.1.cell 5 _ rfl; have q6 := hj.1.cell 6 _ rfl; have q7 := hj.1.cell 7 _ rfl; have p0 := hj.2.1.cell 0 _ rfl; go_simp; refine hK _ _ ?_ (Below.refl _ _); apply Rg.mk))) ?_ rfl
  refine Rg.build_cons (m := 5) (r := Rg.eq _) (Rg.one_plain (by rfl) (by (intro ax wx hk Kx hK; obtain ⟨v10, k10, h10⟩ := hk.dep 1 10 _ rfl rfl rfl; (first | (cases (h10 : v10 = _)) | (obtain ⟨rfl, h10⟩ := h10) | skip); obtain ⟨v12, k12, h12⟩ := hk.dep 3 12 _ rfl rfl rfl; (first | (cases (h12 : v12 = _)) | (obtain ⟨rfl, h12⟩ := h12) | skip); have hj := hk.j; clear hk; go_simp; refine hK _ _ ?_ (Below.refl _ _); apply Rg.mk))) ?_ rfl
  refine Rg.build_cons (m := 6) (r := Rg.eq _) (Rg.one_plain (by rfl) (by (intro ax wx hk Kx hK; obtain ⟨v13, k13, h13⟩ := hk.dep 4 13 _ rfl rfl rfl; (first | (cases (h13 : v13 = _)) | (obtain ⟨rfl, h13⟩ := h13) | skip); have hj := hk.j; clear hk; go_simp; refine hK _ _ ?_ (Below.refl _ _); apply Rg.mk))) ?_ rfl
  refine Rg.build_end fun wx hj => ?_
  refine Rg.fin_eq rfl ?_
  refine Rg.fin_eq rfl ?_
  refine Rg.fin_eq rfl ?_
  refine Rg.fin_eq rfl ?_
  refine Rg.fin_eq rfl ?_
  refine Rg.fin_eq rfl ?_
  refine Rg.fin_nil ?_
  simp only [List.set_cons_zero, List.set_cons_succ]
  have HN2 := Lib.hid hj.1; have HC2 := Lib.hid hj.2.1; have HB2 := Lib.hid hj.2.2
  clear hj HN1 HC1 HB1 HMO
  by_cases hL : L < mo
  · have H := Lib.hid (H6.out hL)
    go_wp2_with fail
    go_returns
    exact ⟨HB2.out, 6, H.out, rfl⟩
  have H71 := Lib.hid (H7.out (by omega)); have H01 := Lib.hid (H0.out (by omega))
  clear H6 H7 H0
  go_upto_region 5 with (fail)
  obtain ⟨wy, hwy⟩ : ∃ wy : World, wy = wx := ⟨_, rfl⟩
  subst hwy
  refine Rg.wp_region_each (by kernel_rfl) (fun w' => AtG w' w.heap.size 41 (nodeC op f mn mx (.slice a m c)) ∧ AtG w' (w.heap.size + 1) 24 (cfgC L Q C R M) ∧ Below w.heap.size w w') (fun w1 w2 h hb => ⟨h.1.below hb, h.2.1.below hb, h.2.2.trans (hb.mono h.2.2.size)⟩) (by kernel_rfl) (by kernel_rfl) (⟨HN2.out, HC2.out, HB2.out⟩) ?_
  show Rg.Build _ _ _ _ _ 0 [_, _, _, _, _, _] []
  refine Rg.build_cons (m := 1) (r := Rg.eq _) (Rg.one_plain (by rfl) (by (intro ax wx hk Kx hK; have k2 := hk.base 2 _ rfl rfl; have hj := hk.j; clear hk; have q0 := hj.1.cell 0 _ rfl; have q1 := hj.1.cell 1 _ rfl; have q2 := hj.1.cell 2 _ rfl; have q3 := hj.1.cell 3 _ rfl; have q4 := hj.1.cell 4 _ rfl; have q5 := hj.1.cell 5 _ rfl; have q6 := hj.1.cell 6 _ rfl; have q7 := hj.1.cell 7 _ rfl; have p0 := hj.2.1.cell 4 _ rfl; go_simp; refine hK _ _ ?_ (Below.refl _ _); apply Rg.mk))) ?_ rfl
  refine Rg.build_cons (m := 2) (r := Rg.eq _) (Rg.one_plain (by rfl) (by (intro ax wx hk Kx hK; obtain ⟨v15, k15, h15⟩ := hk.dep 0 15 _ rfl rfl rfl; (first | (cases (h15 : v15 = _)) | (obtain ⟨rfl, h15⟩ := h15) | skip); have hj := hk.j; clear hk; go_simp; refine (HAN.out _ hj.2.2).mono ?_; rintro e w' ⟨rfl, hb⟩; refine hK _ _ ?_ hb; apply Rg.mk))) ?_ rfl
  refine Rg.build_cons (m := 3) (r := Rg.eq _) (Rg.one_plain (by rfl) (by (intro ax wx hk Kx hK; have k3 := hk.base 3 _ rfl rfl; have hj := hk.j; clear hk; go_simp; refine hK _ _ ?_ (Below.refl _ _); apply Rg.mk))) ?_ rfl
  refine Rg.build_cons (m := 4) (r := Rg.eq _) (Rg.one_plain (by rfl) (by (intro ax wx hk Kx hK; obtain ⟨v17, k17, h17⟩ := hk.dep 2 17 _ rfl rfl rfl; (first | (cases (h17 : v17 = _)) | (obtain ⟨rfl, h17⟩ := h17) | skip); have hj := hk.j; clear hk; have q0 := hj.1.cell 0 _ rfl; have q1 := hj.1.cell 1 _ rfl; have q2 := hj.1.cell 2 _ rfl; have q3 := hj.1.cell 3 _ rfl; have q4 := hj.1.cell 4 _ rfl; have q5 := hj.1.cell 5 _ rfl; have q6 := hj.1.cell 6 _ rfl; have q7 := hj.1.cell 7 _ rfl; have p0 := hj.2.1.cell 4 _ rfl; go_simp; refine hK _ _ ?_ (Below.refl _ _); apply Rg.mk))) ?_ rfl
  refine Rg.build_cons (m := 5) (r := Rg.eq _) (Rg.one_plain (by rfl) (by (intro ax wx hk Kx hK; obtain ⟨v16, k16, h16⟩ := hk.dep 1 16 _ rfl rfl rfl; (first | (cases (h16 : v16 = _)) | (obtain ⟨rfl, h16⟩ := h16) | skip); obtain ⟨v18, k18, h18⟩ := hk.dep 3 18 _ rfl rfl rfl; (first | (cases (h18 : v18 = _)) | (obtain ⟨rfl, h18⟩ := h18) | skip); have hj := hk.j; clear hk; go_simp; refine (HSH.out _).mono ?_; rintro e w' ⟨rfl, hb⟩; refine hK _ _ ?_ hb; apply Rg.mk))) ?_ rfl
  refine Rg.build_cons (m := 6) (r := Rg.eq _) (Rg.one_plain (by rfl) (by (intro ax wx hk Kx hK; obtain ⟨v19, k19, h19⟩ := hk.dep 4 19 _ rfl rfl rfl; (first | (cases (h19 : v19 = _)) | (obtain ⟨rfl, h19⟩ := h19) | skip); have hj := hk.j; clear hk; go_simp; refine hK _ _ ?_ (Below.refl _ _); apply Rg.mk))) ?_ rfl
  refine Rg.build_end fun wx hj => ?_
  refine Rg.fin_eq rfl ?_
  refine Rg.fin_eq rfl ?_
  refine Rg.fin_eq rfl ?_
  refine Rg.fin_eq rfl ?_
  refine Rg.fin_eq rfl ?_
  refine Rg.fin_eq rfl ?_
  refine Rg.fin_nil ?_
  simp only [List.set_cons_zero, List.set_cons_succ]
  have HB3 := Lib.hid hj.2.2
  clear hj HN2 HC2 HB2 HAN HSH
  generalize any M.toNat = b at *
  cases b
  · have H := Lib.hid (H01.out rfl)
    clear H71 H01
    go_wp2_with fail
    go_returns
    exact ⟨HB3.out, 0, H.out, rfl⟩
  · have H := Lib.hid (H71.out rfl)
    clear H71 H01
    go_wp2_with fail
    go_returns
    exact ⟨HB3.out, 7, H.out, rfl⟩
end Go.Proofs.YtgjcibhhffkemaaGreatDoor
/- What the program's reader of patterns shares with the document's. -/
namespace Go.Proofs.YtgjcibhhffkemaaGreatDoor
end Go.Proofs.YtgjcibhhffkemaaGreatDoor
/- The program's reader of patterns: fail, peek, is, next, want, digit. -/
set_option linter.unusedVariables false
set_option linter.unusedSimpArgs false
namespace Go.Proofs.YtgjcibhhffkemaaGreatDoor
open Go.RowKit Bt
/-- the reader's cells: text, place, open brackets -/
def rxr (s : ByteArray) (p o : Int) : Array Value := #[.string s, .int .i64 p, .int .i64 o]
/-- a panic with a Spot -/
def RxNo (c : Int) (x : Nat) (e : Ending) (w' : World) : Prop := ∃ b, e = .panicked [{ v := .iface 68 (.pointer (some ⟨b, 0, none⟩)), recovered := false }] ∧ AtG w' b 73 #[.int .i64 (x : Int), .int .i64 c]
/-- what a part of the reader leaves -/
def RxP {α : Type} (g : Nat) (s : ByteArray) (o : Nat) (w : World) (R : Re α) (V : α → Value) (e : Ending) (w' : World) : Prop :=
  Only (fun k => k = g) w w' ∧ match R with
    | .ok a q => e = .returned (V a) ∧ AtG w' g 94 (rxr s (q : Int) (o : Int))
    | .no c x => RxNo c x e w'
theorem failX (g x : Nat) (c : Int) (w : World) : Calls Tryz.prog 125 #[.pointer (some ⟨g, 0, none⟩), .int .i64 (x : Int), .int .i64 c] w fun e w' => Below w.heap.size w w' ∧ RxNo c x e w' := by
  go_enter Tryz.func125, Tryz.ntmps125
  go_wp2
  exact ⟨rfl, (Below.refl _ _).alloc (Nat.le_refl _) _, _, rfl, AtG.new _ _ _⟩
set_option maxRecDepth 100000 in
theorem peekX_end (g : Nat) (s : ByteArray) (p : Nat) (o : Int) (w : World) (h : AtG w g 94 (rxr s p o)) (hp : p = s.size) :
    Calls Tryz.prog 95 #[.pointer (some ⟨g, 0, none⟩)] w fun e w' => e = .returned (.tuple #[.int .u8 0, .bool false]) ∧ Below w.heap.size w w' := by
  unfold rxr at h
  have H := Lib.hid h
  have HLT := Lib.hid h.lt
  clear h
  go_enter Tryz.func95, Tryz.ntmps95
  go_upto_region 1 with (fail)
  refine Rg.wp_region_each (by kernel_rfl) (fun w' => Below w.heap.size w w') (fun w1 w2 h hb => h.trans (hb.mono h.size)) (by kernel_rfl) (by kernel_rfl) (Below.refl _ _) ?_
  show Rg.Build _ _ _ _ _ 0 [_, _, _, _, _, _, _, _, _, _] []
  refine Rg.build_cons (m := 1) (r := Rg.eq _) (Rg.one_plain (by rfl) (by (intro ax wx hk Kx hK; have k0 := hk.base 0 _ rfl rfl; have hj := hk.j; clear hk; have z0 := (hj.cell (p := ⟨g, 0, none⟩) HLT.out).trans (H.out.cell 0 _ rfl); have z1 := (hj.cell (p := ⟨g, 1, none⟩) HLT.out).trans (H.out.cell 1 _ rfl); go_simp; refine hK _ _ ?_ (Below.refl _ _); apply Rg.mk))) ?_ rfl
  refine Rg.build_cons (m := 2) (r := Rg.eq _) (Rg.one_plain (by rfl) (by (intro ax wx hk Kx hK; obtain ⟨v4, k4, h4⟩ := hk.dep 0 4 _ rfl rfl rfl; (first | (cases (h4 : v4 = _)) | (obtain ⟨rfl, h4⟩ := h4) | skip); have hj := hk.j; clear hk; have z0 := (hj.cell (p := ⟨g, 0, none⟩) HLT.out).trans (H.out.cell 0 _ rfl); have z1 := (hj.cell (p := ⟨g, 1, none⟩) HLT.out).trans (H.out.cell 1 _ rfl); go_simp; refine hK _ _ ?_ (Below.refl _ _); apply Rg.mk))) ?_ rfl
  refine Rg.build_cons (m := 3) (r := Rg.eq _) (Rg.one_plain (by rfl) (by (intro ax wx hk Kx hK; obtain ⟨v5, k5, h5⟩ := hk.dep 1 5 _ rfl rfl rfl; (first | (cases (h5 : v5 = _)) | (obtain ⟨rfl, h5⟩ := h5) | skip); have hj := hk.j; clear hk; have z0 := (hj.cell (p := ⟨g, 0, none⟩) HLT.out).trans (H.out.cell 0 _ rfl); have z1 := (hj.cell (p := ⟨g, 1, none⟩) HLT.out).trans (H.out.cell 1 _ rfl); go_simp; refine hK _ _ ?_ (Below.refl _ _); apply Rg.mk))) ?_ rfl
  refine Rg.build_cons (m := 4) (r := Rg.eq _) (Rg.one_plain (by rfl) (by (intro ax wx hk Kx hK; obtain ⟨v6, k6, h6⟩ := hk.dep 2 6 _ rfl rfl rfl; (first | (cases (h6 : v6 = _)) | (obtain ⟨rfl, h6⟩ := h6) | skip); have hj := hk.j; clear hk; have z0 := (hj.cell (p := ⟨g, 0, none⟩) HLT.out).trans (H.out.cell 0 _ rfl); have z1 := (hj.cell (p := ⟨g, 1, none⟩) HLT.out).trans (H.out.cell 1 _ rfl); go_simp; refine hK _ _ ?_ (Below.refl _ _); apply Rg.mk))) ?_ rfl
  refine Rg.build_cons (m := 5) (r := Rg.eq _) (Rg.one_plain (by rfl) (by (intro ax wx hk Kx hK; have k0 := hk.base 0 _ rfl rfl; have hj := hk.j; clear hk; have z0 := (hj.cell (p := ⟨g, 0, none⟩) HLT.out).trans (H.out.cell 0 _ rfl); have z1 := (hj.cell (p := ⟨g, 1, none⟩) HLT.out).trans (H.out.cell 1 _ rfl); go_simp; refine hK _ _ ?_ (Below.refl _ _); apply Rg.mk))) ?_ rfl
  refine Rg.build_cons (m := 6) (r := Rg.eq _) (Rg.one_plain (by rfl) (by (intro ax wx hk Kx hK; obtain ⟨v8, k8, h8⟩ := hk.dep 4 8 _ rfl rfl rfl; (first | (cases (h8 : v8 = _)) | (obtain ⟨rfl, h8⟩ := h8) | skip); have hj := hk.j; clear hk; have z0 := (hj.cell (p := ⟨g, 0, none⟩) HLT.out).trans (H.out.cell 0 _ rfl); have z1 := (hj.cell (p := ⟨g, 1, none⟩) HLT.out).trans (H.out.cell 1 _ rfl); go_simp; refine hK _ _ ?_ (Below.refl _ _); apply Rg.mk))) ?_ rfl
  refine Rg.build_cons (m := 7) (r := Rg.eq _) (Rg.one_plain (by rfl) (by (intro ax wx hk Kx hK; obtain ⟨v9, k9, h9⟩ := hk.dep 5 9 _ rfl rfl rfl; (first | (cases (h9 : v9 = _)) | (obtain ⟨rfl, h9⟩ := h9) | skip); have hj := hk.j; clear hk; have z0 := (hj.cell (p := ⟨g, 0, none⟩) HLT.out).trans (H.out.cell 0 _ rfl); have z1 := (hj.cell (p := ⟨g, 1, none⟩) HLT.out).trans (H.out.cell 1 _ rfl); go_simp; refine hK _ _ ?_ (Below.refl _ _); apply Rg.mk))) ?_ rfl
  refine Rg.build_cons (m := 8) (r := Rg.eq _) (Rg.one_plain (by rfl) (by (intro ax wx hk Kx hK; obtain ⟨v10, k10, h10⟩ := hk.dep 6 10 _ rfl rfl rfl; (first | (cases (h10 : v10 = _)) | (obtain ⟨rfl, h10⟩ := h10) | skip); have hj := hk.j; clear hk; have z0 := (hj.cell (p := ⟨g, 0, none⟩) HLT.out).trans (H.out.cell 0 _ rfl); have z1 := (hj.cell (p := ⟨g, 1, none⟩) HLT.out).trans (H.out.cell 1 _ rfl); go_simp; refine hK _ _ ?_ (Below.refl _ _); apply Rg.mk))) ?_ rfl
  refine Rg.build_cons (m := 9) (r := Rg.eq _) (Rg.one_plain (by rfl) (by (intro ax wx hk Kx hK; obtain ⟨v11, k11, h11⟩ := hk.dep 7 11 _ rfl rfl rfl; (first | (cases (h11 : v11 = _)) | (obtain ⟨rfl, h11⟩ := h11) | skip); have hj := hk.j; clear hk; have z0 := (hj.cell (p := ⟨g, 0, none⟩) HLT.out).trans (H.out.cell 0 _ rfl); have z1 := (hj.cell (p := ⟨g, 1, none⟩) HLT.out).trans (H.out.cell 1 _ rfl); go_simp; refine hK _ _ ?_ (Below.refl _ _); apply Rg.mk))) ?_ rfl
  refine Rg.build_cons (m := 10) (r := Rg.eq (.bool true)) (Rg.one_plain (by rfl) (by (intro ax wx hk Kx hK; obtain ⟨v7, k7, h7⟩ := hk.dep 3 7 _ rfl rfl rfl; (first | (cases (h7 : v7 = _)) | (obtain ⟨rfl, h7⟩ := h7) | skip); obtain ⟨v12, k12, h12⟩ := hk.dep 8 12 _ rfl rfl rfl; (first | (cases (h12 : v12 = _)) | (obtain ⟨rfl, h12⟩ := h12) | skip); have hj := hk.j; clear hk; have z0 := (hj.cell (p := ⟨g, 0, none⟩) HLT.out).trans (H.out.cell 0 _ rfl); have z1 := (hj.cell (p := ⟨g, 1, none⟩) HLT.out).trans (H.out.cell 1 _ rfl); (go_simp; refine hK _ _ ?_ (Below.refl _ _); simp [Rg.eq, hp])))) ?_ rfl
  refine Rg.build_end fun wx hj => ?_
  refine Rg.fin_eq rfl ?_
  refine Rg.fin_eq rfl ?_
  refine Rg.fin_eq rfl ?_
  refine Rg.fin_eq rfl ?_
  refine Rg.fin_eq rfl ?_
  refine Rg.fin_eq rfl ?_
  refine Rg.fin_eq rfl ?_
  refine Rg.fin_eq rfl ?_
  refine Rg.fin_eq rfl ?_
  first | refine Rg.fin_eq rfl ?_ | refine Rg.fin_any rfl fun v13 h13 => ?_
  refine Rg.fin_nil ?_
  simp only [List.set_cons_zero, List.set_cons_succ]
  have HJ := Lib.hid hj; clear hj
  go_wp2_with fail
  go_returns
  exact ⟨rfl, HJ.out⟩
set_option maxRecDepth 100000 in
theorem peekX_in (g : Nat) (s : ByteArray) (p : Nat) (o : Int) (w : World) (h : AtG w g 94 (rxr s p o)) (hp : p < s.size) :
    Calls Tryz.prog 95 #[.pointer (some ⟨g, 0, none⟩)] w fun e w' => e = .returned (.tuple #[.int .u8 (ch s p), .bool true]) ∧ Below w.heap.size w w' := by
  unfold rxr at h
  have H := Lib.hid h
  have HLT := Lib.hid h.lt
  have hch := ch_in hp
  have hp2 : ¬ p = s.size := by omega
  have hpI : (p : Int) < s.size := by omega
  clear h
  go_enter Tryz.func95, Tryz.ntmps95
  go_upto_region 1 with (fail)
  refine Rg.wp_region_each (by kernel_rfl) (fun w' => Below w.heap.size w w') (fun w1 w2 h hb => h.trans (hb.mono h.size)) (by kernel_rfl) (by kernel_rfl) (Below.refl _ _) ?_
  show Rg.Build _ _ _ _ _ 0 [_, _, _, _, _, _, _, _, _, _] []
  refine Rg.build_cons (m := 1) (r := Rg.eq _) (Rg.one_plain (by rfl) (by (intro ax wx hk Kx hK; have k0 := hk.base 0 _ rfl rfl; have hj := hk.j; clear hk; have z0 := (hj.cell (p := ⟨g, 0, none⟩) HLT.out).trans (H.out.cell 0 _ rfl); have z1 := (hj.cell (p := ⟨g, 1, none⟩) HLT.out).trans (H.out.cell 1 _ rfl); go_simp; refine hK _ _ ?_ (Below.refl _ _); apply Rg.mk))) ?_ rfl
  refine Rg.build_cons (m := 2) (r := Rg.eq _) (Rg.one_plain (by rfl) (by (intro ax wx hk Kx hK; obtain ⟨v4, k4, h4⟩ := hk.dep 0 4 _ rfl rfl rfl; (first | (cases (h4 : v4 = _)) | (obtain ⟨rfl, h4⟩ := h4) | skip); have hj := hk.j; clear hk; have z0 := (hj.cell (p := ⟨g, 0, none⟩) HLT.out).trans (H.out.cell 0 _ rfl); have z1 := (hj.cell (p := ⟨g, 1, none⟩) HLT.out).trans (H.out.cell 1 _ rfl); go_simp; refine hK _ _ ?_ (Below.refl _ _); apply Rg.mk))) ?_ rfl
  refine Rg.build_cons (m := 3) (r := Rg.eq _) (Rg.one_plain (by rfl) (by (intro ax wx hk Kx hK; obtain ⟨v5, k5, h5⟩ := hk.dep 1 5 _ rfl rfl rfl; (first | (cases (h5 : v5 = _)) | (obtain ⟨rfl, h5⟩ := h5) | skip); have hj := hk.j; clear hk; have z0 := (hj.cell (p := ⟨g, 0, none⟩) HLT.out).trans (H.out.cell 0 _ rfl); have z1 := (hj.cell (p := ⟨g, 1, none⟩) HLT.out).trans (H.out.cell 1 _ rfl); go_simp; refine hK _ _ ?_ (Below.refl _ _); apply Rg.mk))) ?_ rfl
  refine Rg.build_cons (m := 4) (r := Rg.eq _) (Rg.one_plain (by rfl) (by (intro ax wx hk Kx hK; obtain ⟨v6, k6, h6⟩ := hk.dep 2 6 _ rfl rfl rfl; (first | (cases (h6 : v6 = _)) | (obtain ⟨rfl, h6⟩ := h6) | skip); have hj := hk.j; clear hk; have z0 := (hj.cell (p := ⟨g, 0, none⟩) HLT.out).trans (H.out.cell 0 _ rfl); have z1 := (hj.cell (p := ⟨g, 1, none⟩) HLT.out).trans (H.out.cell 1 _ rfl); go_simp; refine hK _ _ ?_ (Below.refl _ _); apply Rg.mk))) ?_ rfl
  refine Rg.build_cons (m := 5) (r := Rg.eq _) (Rg.one_plain (by rfl) (by (intro ax wx hk Kx hK; have k0 := hk.base 0 _ rfl rfl; have hj := hk.j; clear hk; have z0 := (hj.cell (p := ⟨g, 0, none⟩) HLT.out).trans (H.out.cell 0 _ rfl); have z1 := (hj.cell (p := ⟨g, 1, none⟩) HLT.out).trans (H.out.cell 1 _ rfl); go_simp; refine hK _ _ ?_ (Below.refl _ _); apply Rg.mk))) ?_ rfl
  refine Rg.build_cons (m := 6) (r := Rg.eq _) (Rg.one_plain (by rfl) (by (intro ax wx hk Kx hK; obtain ⟨v8, k8, h8⟩ := hk.dep 4 8 _ rfl rfl rfl; (first | (cases (h8 : v8 = _)) | (obtain ⟨rfl, h8⟩ := h8) | skip); have hj := hk.j; clear hk; have z0 := (hj.cell (p := ⟨g, 0, none⟩) HLT.out).trans (H.out.cell 0 _ rfl); have z1 := (hj.cell (p := ⟨g, 1, none⟩) HLT.out).trans (H.out.cell 1 _ rfl); go_simp; refine hK _ _ ?_ (Below.refl _ _); apply Rg.mk))) ?_ rfl
  refine Rg.build_cons (m := 7) (r := Rg.eq _) (Rg.one_plain (by rfl) (by (intro ax wx hk Kx hK; obtain ⟨v9, k9, h9⟩ := hk.dep 5 9 _ rfl rfl rfl; (first | (cases (h9 : v9 = _)) | (obtain ⟨rfl, h9⟩ := h9) | skip); have hj := hk.j; clear hk; have z0 := (hj.cell (p := ⟨g, 0, none⟩) HLT.out).trans (H.out.cell 0 _ rfl); have z1 := (hj.cell (p := ⟨g, 1, none⟩) HLT.out).trans (H.out.cell 1 _ rfl); go_simp; refine hK _ _ ?_ (Below.refl _ _); apply Rg.mk))) ?_ rfl
  refine Rg.build_cons (m := 8) (r := Rg.eq _) (Rg.one_plain (by rfl) (by (intro ax wx hk Kx hK; obtain ⟨v10, k10, h10⟩ := hk.dep 6 10 _ rfl rfl rfl; (first | (cases (h10 : v10 = _)) | (obtain ⟨rfl, h10⟩ := h10) | skip); have hj := hk.j; clear hk; have z0 := (hj.cell (p := ⟨g, 0, none⟩) HLT.out).trans (H.out.cell 0 _ rfl); have z1 := (hj.cell (p := ⟨g, 1, none⟩) HLT.out).trans (H.out.cell 1 _ rfl); go_simp; refine hK _ _ ?_ (Below.refl _ _); apply Rg.mk))) ?_ rfl
  refine Rg.build_cons (m := 9) (r := Rg.eq _) (Rg.one_plain (by rfl) (by (intro ax wx hk Kx hK; obtain ⟨v11, k11, h11⟩ := hk.dep 7 11 _ rfl rfl rfl; (first | (cases (h11 : v11 = _)) | (obtain ⟨rfl, h11⟩ := h11) | skip); have hj := hk.j; clear hk; have z0 := (hj.cell (p := ⟨g, 0, none⟩) HLT.out).trans (H.out.cell 0 _ rfl); have z1 := (hj.cell (p := ⟨g, 1, none⟩) HLT.out).trans (H.out.cell 1 _ rfl); go_simp; refine hK _ _ ?_ (Below.refl _ _); apply Rg.mk))) ?_ rfl
  refine Rg.build_cons (m := 10) (r := Rg.eq (.bool false)) (Rg.one_plain (by rfl) (by (intro ax wx hk Kx hK; obtain ⟨v7, k7, h7⟩ := hk.dep 3 7 _ rfl rfl rfl; (first | (cases (h7 : v7 = _)) | (obtain ⟨rfl, h7⟩ := h7) | skip); obtain ⟨v12, k12, h12⟩ := hk.dep 8 12 _ rfl rfl rfl; (first | (cases (h12 : v12 = _)) | (obtain ⟨rfl, h12⟩ := h12) | skip); have hj := hk.j; clear hk; have z0 := (hj.cell (p := ⟨g, 0, none⟩) HLT.out).trans (H.out.cell 0 _ rfl); have z1 := (hj.cell (p := ⟨g, 1, none⟩) HLT.out).trans (H.out.cell 1 _ rfl); (go_simp; refine hK _ _ ?_ (Below.refl _ _); simp [Rg.eq]; omega)))) ?_ rfl
  refine Rg.build_end fun wx hj => ?_
  refine Rg.fin_eq rfl ?_
  refine Rg.fin_eq rfl ?_
  refine Rg.fin_eq rfl ?_
  refine Rg.fin_eq rfl ?_
  refine Rg.fin_eq rfl ?_
  refine Rg.fin_eq rfl ?_
  refine Rg.fin_eq rfl ?_
  refine Rg.fin_eq rfl ?_
  refine Rg.fin_eq rfl ?_
  first | refine Rg.fin_eq rfl ?_ | refine Rg.fin_any rfl fun v13 h13 => ?_
  refine Rg.fin_nil ?_
  simp only [List.set_cons_zero, List.set_cons_succ]
  have HJ := Lib.hid hj; clear hj
  go_upto_region 3 with (fail)
  obtain ⟨wy, rfl⟩ : ∃ wy : World, wy = wx := ⟨_, rfl⟩
  refine Rg.wp_region_each (by kernel_rfl) (fun w' => Below w.heap.size w w') (fun w1 w2 h hb => h.trans (hb.mono h.size)) (by kernel_rfl) (by kernel_rfl) (HJ.out) ?_
  show Rg.Build _ _ _ _ _ 0 [_, _, _, _, _, _, _, _, _, _, _] []
  refine Rg.build_cons (m := 1) (r := Rg.eq _) (Rg.one_plain (by rfl) (by (intro ax wx hk Kx hK; have k0 := hk.base 0 _ rfl rfl; have hj := hk.j; clear hk; have z0 := (hj.cell (p := ⟨g, 0, none⟩) HLT.out).trans (H.out.cell 0 _ rfl); have z1 := (hj.cell (p := ⟨g, 1, none⟩) HLT.out).trans (H.out.cell 1 _ rfl); go_simp; refine hK _ _ ?_ (Below.refl _ _); apply Rg.mk))) ?_ rfl
  refine Rg.build_cons (m := 2) (r := Rg.eq _) (Rg.one_plain (by rfl) (by (intro ax wx hk Kx hK; obtain ⟨v14, k14, h14⟩ := hk.dep 0 14 _ rfl rfl rfl; (first | (cases (h14 : v14 = _)) | (obtain ⟨rfl, h14⟩ := h14) | skip); have hj := hk.j; clear hk; have z0 := (hj.cell (p := ⟨g, 0, none⟩) HLT.out).trans (H.out.cell 0 _ rfl); have z1 := (hj.cell (p := ⟨g, 1, none⟩) HLT.out).trans (H.out.cell 1 _ rfl); go_simp; refine hK _ _ ?_ (Below.refl _ _); apply Rg.mk))) ?_ rfl
  refine Rg.build_cons (m := 3) (r := Rg.eq _) (Rg.one_plain (by rfl) (by (intro ax wx hk Kx hK; obtain ⟨v15, k15, h15⟩ := hk.dep 1 15 _ rfl rfl rfl; (first | (cases (h15 : v15 = _)) | (obtain ⟨rfl, h15⟩ := h15) | skip); have hj := hk.j; clear hk; have z0 := (hj.cell (p := ⟨g, 0, none⟩) HLT.out).trans (H.out.cell 0 _ rfl); have z1 := (hj.cell (p := ⟨g, 1, none⟩) HLT.out).trans (H.out.cell 1 _ rfl); go_simp; refine hK _ _ ?_ (Below.refl _ _); apply Rg.mk))) ?_ rfl
  refine Rg.build_cons (m := 4) (r := Rg.eq _) (Rg.one_plain (by rfl) (by (intro ax wx hk Kx hK; obtain ⟨v16, k16, h16⟩ := hk.dep 2 16 _ rfl rfl rfl; (first | (cases (h16 : v16 = _)) | (obtain ⟨rfl, h16⟩ := h16) | skip); have hj := hk.j; clear hk; have z0 := (hj.cell (p := ⟨g, 0, none⟩) HLT.out).trans (H.out.cell 0 _ rfl); have z1 := (hj.cell (p := ⟨g, 1, none⟩) HLT.out).trans (H.out.cell 1 _ rfl); go_simp; refine hK _ _ ?_ (Below.refl _ _); apply Rg.mk))) ?_ rfl
  refine Rg.build_cons (m := 5) (r := Rg.eq _) (Rg.one_plain (by rfl) (by (intro ax wx hk Kx hK; have k0 := hk.base 0 _ rfl rfl; have hj := hk.j; clear hk; have z0 := (hj.cell (p := ⟨g, 0, none⟩) HLT.out).trans (H.out.cell 0 _ rfl); have z1 := (hj.cell (p := ⟨g, 1, none⟩) HLT.out).trans (H.out.cell 1 _ rfl); go_simp; refine hK _ _ ?_ (Below.refl _ _); apply Rg.mk))) ?_ rfl
  refine Rg.build_cons (m := 6) (r := Rg.eq _) (Rg.one_plain (by rfl) (by (intro ax wx hk Kx hK; obtain ⟨v18, k18, h18⟩ := hk.dep 4 18 _ rfl rfl rfl; (first | (cases (h18 : v18 = _)) | (obtain ⟨rfl, h18⟩ := h18) | skip); have hj := hk.j; clear hk; have z0 := (hj.cell (p := ⟨g, 0, none⟩) HLT.out).trans (H.out.cell 0 _ rfl); have z1 := (hj.cell (p := ⟨g, 1, none⟩) HLT.out).trans (H.out.cell 1 _ rfl); go_simp; refine hK _ _ ?_ (Below.refl _ _); apply Rg.mk))) ?_ rfl
  refine Rg.build_cons (m := 7) (r := Rg.eq _) (Rg.one_plain (by rfl) (by (intro ax wx hk Kx hK; obtain ⟨v19, k19, h19⟩ := hk.dep 5 19 _ rfl rfl rfl; (first | (cases (h19 : v19 = _)) | (obtain ⟨rfl, h19⟩ := h19) | skip); have hj := hk.j; clear hk; have z0 := (hj.cell (p := ⟨g, 0, none⟩) HLT.out).trans (H.out.cell 0 _ rfl); have z1 := (hj.cell (p := ⟨g, 1, none⟩) HLT.out).trans (H.out.cell 1 _ rfl); go_simp; refine hK _ _ ?_ (Below.refl _ _); apply Rg.mk))) ?_ rfl
  refine Rg.build_cons (m := 8) (r := Rg.eq _) (Rg.one_plain (by rfl) (by (intro ax wx hk Kx hK; obtain ⟨v20, k20, h20⟩ := hk.dep 6 20 _ rfl rfl rfl; (first | (cases (h20 : v20 = _)) | (obtain ⟨rfl, h20⟩ := h20) | skip); have hj := hk.j; clear hk; have z0 := (hj.cell (p := ⟨g, 0, none⟩) HLT.out).trans (H.out.cell 0 _ rfl); have z1 := (hj.cell (p := ⟨g, 1, none⟩) HLT.out).trans (H.out.cell 1 _ rfl); go_simp; refine hK _ _ ?_ (Below.refl _ _); apply Rg.mk))) ?_ rfl
  refine Rg.build_cons (m := 9) (r := Rg.eq (.int .u8 (ch s p))) (Rg.one_plain (by rfl) (by (intro ax wx hk Kx hK; obtain ⟨v17, k17, h17⟩ := hk.dep 3 17 _ rfl rfl rfl; (first | (cases (h17 : v17 = _)) | (obtain ⟨rfl, h17⟩ := h17) | skip); obtain ⟨v21, k21, h21⟩ := hk.dep 7 21 _ rfl rfl rfl; (first | (cases (h21 : v21 = _)) | (obtain ⟨rfl, h21⟩ := h21) | skip); have hj := hk.j; clear hk; have z0 := (hj.cell (p := ⟨g, 0, none⟩) HLT.out).trans (H.out.cell 0 _ rfl); have z1 := (hj.cell (p := ⟨g, 1, none⟩) HLT.out).trans (H.out.cell 1 _ rfl); (go_simp; refine hK _ _ ?_ (Below.refl _ _); simp [Rg.eq, hch])))) ?_ rfl
  refine Rg.build_cons (m := 10) (r := Rg.eq _) (Rg.one_plain (by rfl) (by (intro ax wx hk Kx hK; obtain ⟨v22, k22, h22⟩ := hk.dep 8 22 _ rfl rfl rfl; (first | (cases (h22 : v22 = _)) | (obtain ⟨rfl, h22⟩ := h22) | skip); have hj := hk.j; clear hk; have z0 := (hj.cell (p := ⟨g, 0, none⟩) HLT.out).trans (H.out.cell 0 _ rfl); have z1 := (hj.cell (p := ⟨g, 1, none⟩) HLT.out).trans (H.out.cell 1 _ rfl); go_simp; refine hK _ _ ?_ (Below.refl _ _); apply Rg.mk))) ?_ rfl
  refine Rg.build_cons (m := 11) (r := Rg.eq _) (Rg.one_plain (by rfl) (by (intro ax wx hk Kx hK; have hj := hk.j; clear hk; have z0 := (hj.cell (p := ⟨g, 0, none⟩) HLT.out).trans (H.out.cell 0 _ rfl); have z1 := (hj.cell (p := ⟨g, 1, none⟩) HLT.out).trans (H.out.cell 1 _ rfl); go_simp; refine hK _ _ ?_ (Below.refl _ _); apply Rg.mk))) ?_ rfl
  refine Rg.build_end fun wx hj => ?_
  refine Rg.fin_eq rfl ?_
  refine Rg.fin_eq rfl ?_
  refine Rg.fin_eq rfl ?_
  refine Rg.fin_eq rfl ?_
  refine Rg.fin_eq rfl ?_
  refine Rg.fin_eq rfl ?_
  refine Rg.fin_eq rfl ?_
  refine Rg.fin_eq rfl ?_
  first | refine Rg.fin_eq rfl ?_ | refine Rg.fin_any rfl fun v22 h22 => ?_
  refine Rg.fin_eq rfl ?_
  refine Rg.fin_eq rfl ?_
  refine Rg.fin_nil ?_
  simp only [List.set_cons_zero, List.set_cons_succ]
  have HJ2 := Lib.hid hj; clear hj
  go_wp2_with fail
  go_returns
  exact ⟨by rw [hch]; rfl, HJ2.out⟩
set_option maxRecDepth 100000 in
theorem isX (g : Nat) (s : ByteArray) (p : Nat) (o : Int) (c : Int) (w : World) (h : AtG w g 94 (rxr s p o)) (hp : p ≤ s.size) (hc : 0 ≤ c) :
    Calls Tryz.prog 84 #[.pointer (some ⟨g, 0, none⟩), .int .u8 c] w fun e w' => e = .returned (.bool (decide (ch s p = c))) ∧ Below w.heap.size w w' := by
  by_cases hlt : p < s.size
  · have HP := Lib.hid (peekX_in g s p o w h hlt)
    generalize ch s p = d at *
    clear h
    go_enter Tryz.func84, Tryz.ntmps84
    go_wp2_with fail
    refine (HP.out).mono ?_
    rintro e9 w1 ⟨rfl, hb⟩
    have HB := Lib.hid hb
    clear hb
    by_cases hd : d = c
    · subst hd
      go_wp2_with fail
      go_returns
      exact ⟨by simp, HB.out⟩
    · have hd1 : (d == c) = false := by rw [beq_eq_false_iff_ne]; exact hd
      go_wp2_with fail
      go_returns
      exact ⟨by rw [decide_eq_false hd]; simp [hd], HB.out⟩
  · have HP := Lib.hid (peekX_end g s p o w h (by omega))
    have hd : ¬ ch s p = c := by rw [ch_end (by omega)]; omega
    have HD := Lib.hid hd
    clear h hd
    go_enter Tryz.func84, Tryz.ntmps84
    go_wp2_with fail
    refine (HP.out).mono ?_
    rintro e9 w1 ⟨rfl, hb⟩
    have HB := Lib.hid hb
    clear hb
    go_wp2_with fail
    go_returns
    exact ⟨by rw [decide_eq_false HD.out]; rfl, HB.out⟩
set_option maxRecDepth 100000 in
theorem nextX_in (g : Nat) (s : ByteArray) (p : Nat) (o : Int) (w : World) (h : AtG w g 94 (rxr s p o)) (hp : p < s.size) (hs : s.size ≤ 1000) :
    Calls Tryz.prog 117 #[.pointer (some ⟨g, 0, none⟩)] w fun e w' => e = .returned (.int .u8 (ch s p)) ∧ Only (fun k => k = g) w w' ∧ AtG w' g 94 (rxr s ((p + 1 : Nat) : Int) o) := by
  have HP := Lib.hid (peekX_in g s p o w h hp)
  have H := Lib.hid h
  have hpI : (p : Int) < 1000 := by omega
  generalize ch s p = d at *
  clear h
  go_enter Tryz.func117, Tryz.ntmps117
  go_wp2_with fail
  refine (HP.out).mono ?_
  rintro e9 w1 ⟨rfl, hb⟩
  have H1 := Lib.hid (H.out.below hb); have HB := Lib.hid hb
  clear hb
  have z1 : w1.cell? ⟨g, 1, none⟩ = some (.int .i64 (p : Int)) := H1.out.cell 1 _ rfl
  have f1 := H1.out.frozen 1
  go_wp2_with fail
  go_returns
  refine ⟨rfl, (Only.of_below HB.out).trans (Only.set (S := fun k => k = g) _ _ _ _ rfl) (fun k hk => .inl hk), ?_⟩
  rw [show ((p + 1 : Nat) : Int) = (p : Int) + 1 from by omega]
  exact H1.out.set 1 _
set_option maxRecDepth 100000 in
theorem nextX_end (g : Nat) (s : ByteArray) (p : Nat) (o : Int) (w : World) (h : AtG w g 94 (rxr s p o)) (hp : p = s.size) :
    Calls Tryz.prog 117 #[.pointer (some ⟨g, 0, none⟩)] w fun e w' => Only (fun k => k = g) w w' ∧ RxNo 2 p e w' := by
  have HP := Lib.hid (peekX_end g s p o w h hp)
  have H := Lib.hid h
  clear h hp
  go_enter Tryz.func117, Tryz.ntmps117
  go_wp2_with fail
  refine (HP.out).mono ?_
  rintro e9 w1 ⟨rfl, hb⟩
  have H1 := Lib.hid (H.out.below hb); have HB := Lib.hid hb
  clear hb
  have z1 : w1.cell? ⟨g, 1, none⟩ = some (.int .i64 (p : Int)) := H1.out.cell 1 _ rfl
  go_wp2_with fail
  refine (failX g p 2 _).mono ?_
  rintro e9 w2 ⟨hb2, b, rfl, ha⟩
  exact ⟨rfl, (Only.of_below HB.out).trans (Only.of_below (S := fun k => k = g) hb2) (fun k hk => .inl hk), b, rfl, ha⟩
theorem RxNo.below {c : Int} {x : Nat} {e : Ending} {w w' : World} (h : RxNo c x e w) (hb : Below w.heap.size w w') : RxNo c x e w' := by
  obtain ⟨b, h1, h2⟩ := h; exact ⟨b, h1, h2.below hb⟩
end Go.Proofs.YtgjcibhhffkemaaGreatDoor
/- The program's reader of patterns: want, digit, number, times. -/
set_option linter.unusedVariables false
set_option linter.unusedSimpArgs false
namespace Go.Proofs.YtgjcibhhffkemaaGreatDoor
open Go.RowKit Bt
def wantF (s : ByteArray) (c : Int) (p : Nat) : Re Unit := if ch s p = c then .ok () (p + 1) else .no 2 p
set_option maxRecDepth 100000 in
theorem wantX (g : Nat) (s : ByteArray) (p o : Nat) (c : Int) (w : World) (h : AtG w g 94 (rxr s p o)) (hp : p ≤ s.size) (hs : s.size ≤ 1000) (hc : 0 ≤ c) :
    Calls Tryz.prog 127 #[.pointer (some ⟨g, 0, none⟩), .int .u8 c] w (RxP g s o w (wantF s c p) (fun _ => .tuple #[])) := by
  by_cases hlt : p < s.size
  · have HN := Lib.hid (nextX_in g s p o w h hlt hs)
    have HF := Lib.hid (show wantF s c p = if ch s p = c then .ok () (p + 1) else .no 2 p from rfl)
    have hpI : (p : Int) < 1000 := by omega
    generalize wantF s c p = R at *
    generalize ch s p = d at *
    clear h
    go_enter Tryz.func127, Tryz.ntmps127
    go_wp2_with fail
    refine (HN.out).mono ?_
    rintro e9 w1 ⟨rfl, ho, ha⟩
    have HO := Lib.hid ho; have HA := Lib.hid ha
    clear ho ha HN
    by_cases hd : d = c
    · have HR := Lib.hid (HF.out.trans (if_pos hd))
      subst hd
      clear HF
      go_wp2_with fail
      refine bodyPost_ret (v := .tuple #[]) (by simp [results, Tryz.results127, go_sem]; try rfl) rfl ?_
      rw [HR.out]
      exact ⟨HO.out, rfl, HA.out⟩
    · have HR := Lib.hid (HF.out.trans (if_neg hd))
      have hd1 : (d == c) = false := by rw [beq_eq_false_iff_ne]; exact hd
      have z1 : w1.cell? ⟨g, 1, none⟩ = some (.int .i64 ((p + 1 : Nat) : Int)) := HA.out.cell 1 _ rfl
      rw [show ((p + 1 : Nat) : Int) = (p : Int) + 1 from by omega] at z1
      have hw1 : (p : Int) + 1 - 1 = (p : Int) := by omega
      clear HF
      go_wp2_with fail
      refine (failX g p 2 _).mono ?_
      rintro e9 w2 ⟨hb2, b, rfl, hx⟩
      refine ⟨rfl, ?_⟩
      rw [HR.out]
      exact ⟨HO.out.tb hb2, b, rfl, hx⟩
  · have hpe : p = s.size := by omega
    have HN := Lib.hid (nextX_end g s p o w h hpe)
    have hd : ¬ ch s p = c := by rw [ch_end (by omega)]; omega
    have HR := Lib.hid (show wantF s c p = .no 2 p from if_neg hd)
    clear h hpe hd
    generalize wantF s c p = R at *
    go_enter Tryz.func127, Tryz.ntmps127
    go_wp2_with fail
    refine (HN.out).mono ?_
    rintro e9 w1 ⟨ho, b, rfl, hx⟩
    refine ⟨rfl, ?_⟩
    rw [HR.out]
    exact ⟨ho, b, rfl, hx⟩
theorem digitX (c : Int) (w : World) : Calls Tryz.prog 133 #[.int .u8 c] w fun e w' => e = .returned (.bool (decide (48 ≤ c ∧ c ≤ 57))) ∧ w' = w := by
  by_cases h1 : 48 ≤ c
  · by_cases h2 : c ≤ 57
    · have HD := Lib.hid (show decide (48 ≤ c ∧ c ≤ 57) = true from decide_eq_true ⟨h1, h2⟩)
      rw [HD.out]
      go_enter Tryz.func133, Tryz.ntmps133
      go_wp2
      go_returns
      exact ⟨rfl, rfl⟩
    · have HD := Lib.hid (show decide (48 ≤ c ∧ c ≤ 57) = false from decide_eq_false (fun h => h2 h.2))
      rw [HD.out]
      have h3 : ¬ c ≤ 57 := h2
      go_enter Tryz.func133, Tryz.ntmps133
      go_wp2
      go_returns
      exact ⟨by first | rfl | simp [h3] | (simp; omega), rfl⟩
  · have HD := Lib.hid (show decide (48 ≤ c ∧ c ≤ 57) = false from decide_eq_false (fun h => h1 h.1))
    rw [HD.out]
    go_enter Tryz.func133, Tryz.ntmps133
    go_wp2
    go_returns
    exact ⟨by first | rfl | simp [h1] | (simp; omega), rfl⟩
end Go.Proofs.YtgjcibhhffkemaaGreatDoor
/- The program's reader of patterns: number, times. -/
set_option linter.unusedVariables false
set_option linter.unusedSimpArgs false
namespace Go.Proofs.YtgjcibhhffkemaaGreatDoor
open Go.RowKit Bt
set_option maxRecDepth 100000 in
set_option maxHeartbeats 800000 in
theorem numX (g : Nat) (s : ByteArray) (p o : Nat) (w : World) (h : AtG w g 94 (rxr s p o)) (hp : p ≤ s.size) (hs : s.size ≤ 900) :
    Calls Tryz.prog 126 #[.pointer (some ⟨g, 0, none⟩)] w (RxP g s o w (numF s p) (fun n => .int .i64 n)) := by
  by_cases hlt : p < s.size
  · have HN := Lib.hid (nextX_in g s p o w h hlt (by omega))
    have HP1 := Lib.hid (fun (w1 : World) (h1 : AtG w1 g 94 (rxr s ((p + 1 : Nat) : Int) o)) (hq : p + 1 < s.size) => peekX_in g s (p + 1) o w1 h1 hq)
    have HP2 := Lib.hid (fun (w1 : World) (h1 : AtG w1 g 94 (rxr s ((p + 1 : Nat) : Int) o)) (hq : p + 1 = s.size) => peekX_end g s (p + 1) o w1 h1 hq)
    have HF := Lib.hid (show numF s p = if ch s p < 48 ∨ 57 < ch s p then .no 2 p else if 48 ≤ ch s (p + 1) ∧ ch s (p + 1) ≤ 57 then .ok (10 * (ch s p - 48) + ch s (p + 1) - 48) (p + 2) else .ok (ch s p - 48) (p + 1) from rfl)
    have HE := Lib.hid (fun (hq : p + 1 = s.size) => ch_end (s := s) (p := p + 1) (by omega))
    have hpI : (p : Int) < 1000 := by omega
    have hl1 := ch_lt s (p + 1)
    have hl0 := ch_pos hlt
    have hl2 := (ch_lt s p).2
    generalize numF s p = R at *
    generalize ch s (p + 1) = d1 at *
    generalize ch s p = d at *
    have HD := Lib.hid (digitX d)
    clear h
    go_enter Tryz.func126, Tryz.ntmps126
    go_wp2_with fail
    refine (HN.out).mono ?_
    rintro e9 w1 ⟨rfl, ho, ha⟩
    have HO := Lib.hid ho; have HA := Lib.hid ha
    clear ho ha HN
    go_wp2_with fail
    refine (HD.out _).mono ?_
    rintro e9 w9 ⟨rfl, hw9⟩; subst hw9
    by_cases hd : 48 ≤ d ∧ d ≤ 57
    · rw [decide_eq_true hd]
      have HR := Lib.hid (HF.out.trans (if_neg (by omega)))
      obtain ⟨d48, d57⟩ := hd
      clear HF
      by_cases hq : p + 1 < s.size
      · have HPQ := Lib.hid (HP1.out w9 HA.out hq)
        have HD1 := Lib.hid (digitX d1)
        go_wp2_with fail
        refine (HPQ.out).mono ?_
        rintro e9 w2 ⟨rfl, hb⟩
        have HO2 := Lib.hid (HO.out.tb hb); have HA2 := Lib.hid (HA.out.below hb)
        clear hb HP1 HP2 HPQ
        go_wp2_with fail
        refine (HD1.out _).mono ?_
        rintro e9 w8 ⟨rfl, hw8⟩; subst hw8
        by_cases he : 48 ≤ d1 ∧ d1 ≤ 57
        · rw [decide_eq_true he]
          have HR2 := Lib.hid (HR.out.trans (if_pos he))
          obtain ⟨e48, e57⟩ := he
          have z1 : w8.cell? ⟨g, 1, none⟩ = some (.int .i64 ((p + 1 : Nat) : Int)) := HA2.out.cell 1 _ rfl
          rw [show ((p + 1 : Nat) : Int) = (p : Int) + 1 from by omega] at z1
          have f1 := HA2.out.frozen 1
          clear HR HE
          go_wp2_with fail
          refine bodyPost_ret (v := .int .i64 (10 * (d - 48) + d1 - 48)) (by simp [results, Tryz.results126, go_sem]; try omega) rfl ?_
          rw [HR2.out]
          refine ⟨HO2.out.st _ _ _ (.inl rfl), rfl, ?_⟩
          have := HA2.out.set 1 (.int .i64 ((p : Int) + 1 + 1))
          rw [show ((p + 2 : Nat) : Int) = (p : Int) + 1 + 1 from by omega]
          exact this
        · rw [decide_eq_false he]
          have HR2 := Lib.hid (HR.out.trans (if_neg he))
          clear HR HE he
          go_wp2_with fail
          refine bodyPost_ret (v := .int .i64 (d - 48)) (by simp [results, Tryz.results126, go_sem]; try omega) rfl ?_
          rw [HR2.out]
          exact ⟨HO2.out, rfl, HA2.out⟩
      · have hqe : p + 1 = s.size := by omega
        have HPQ := Lib.hid (HP2.out w9 HA.out hqe)
        have HR2 := Lib.hid (HR.out.trans (if_neg (by have := HE.out hqe; omega)))
        clear HR HE HP1 HP2 hqe hq hp hlt
        go_wp2_with fail
        refine (HPQ.out).mono ?_
        rintro e9 w2 ⟨rfl, hb⟩
        have HO2 := Lib.hid (HO.out.tb hb); have HA2 := Lib.hid (HA.out.below hb)
        clear hb HPQ
        go_wp2_with fail
        refine bodyPost_ret (v := .int .i64 (d - 48)) (by simp [results, Tryz.results126, go_sem]; try omega) rfl ?_
        rw [HR2.out]
        exact ⟨HO2.out, rfl, HA2.out⟩
    · rw [decide_eq_false hd]
      have HR := Lib.hid (HF.out.trans (if_pos (by omega)))
      have z1 : w9.cell? ⟨g, 1, none⟩ = some (.int .i64 ((p + 1 : Nat) : Int)) := HA.out.cell 1 _ rfl
      rw [show ((p + 1 : Nat) : Int) = (p : Int) + 1 from by omega] at z1
      clear HF HE HP1 HP2 hd
      go_wp2_with fail
      refine (failX g p 2 _).mono ?_
      rintro e9 w2 ⟨hb2, b, rfl, hx⟩
      refine ⟨rfl, ?_⟩
      rw [HR.out]
      exact ⟨HO.out.tb hb2, b, rfl, hx⟩
  · have hpe : p = s.size := by omega
    have HN := Lib.hid (nextX_end g s p o w h hpe)
    have HR := Lib.hid (show numF s p = .no 2 p from by unfold numF; rw [if_pos (.inl (by rw [ch_end (by omega)]; decide))])
    clear h hpe hlt hp
    generalize numF s p = R at *
    go_enter Tryz.func126, Tryz.ntmps126
    go_wp2_with fail
    refine (HN.out).mono ?_
    rintro e9 w1 ⟨ho, b, rfl, hx⟩
    refine ⟨rfl, ?_⟩
    rw [HR.out]
    exact ⟨ho, b, rfl, hx⟩
set_option maxRecDepth 100000 in
set_option maxHeartbeats 800000 in
theorem timesX (g : Nat) (s : ByteArray) (p o : Nat) (w : World) (h : AtG w g 94 (rxr s p o)) (hp : p ≤ s.size) (hs : s.size ≤ 900) :
    Calls Tryz.prog 107 #[.pointer (some ⟨g, 0, none⟩)] w (RxP g s o w (timesF s p) (fun n => .tuple #[.int .i64 n.1, .int .i64 n.2])) := by
  have HN := Lib.hid (numX g s p o w h hp hs)
  have HIN := Lib.hid (numF_in s p hp)
  have HF := Lib.hid (show timesF s p = match numF s p with | .no c x => .no c x | .ok low q => timesE s low (if ch s q = 44 then numF s (q + 1) else .ok low q) from rfl)
  generalize timesF s p = R at *
  clear h
  go_enter Tryz.func107, Tryz.ntmps107
  go_wp2_with fail
  refine (HN.out).mono ?_
  cases hn : numF s p with
  | no c x =>
    rw [hn] at HF
    rintro e9 w1 ⟨ho, b, rfl, hx⟩
    refine ⟨rfl, ?_⟩
    rw [HF.out]
    exact ⟨ho, b, rfl, hx⟩
  | ok low q =>
    rw [hn] at HF HIN
    have hq : p + 1 ≤ q ∧ q ≤ s.size := HIN.out.1
    have hlow := HIN.out.2 low q rfl
    obtain ⟨lo0, lo1⟩ := hlow
    rintro e9 w1 ⟨ho, rfl, ha⟩
    have HO := Lib.hid ho; have HA := Lib.hid ha
    have HRS0 := Lib.hid hq.2
    have HI := isX g s q o 44 w1 ha hq.2 (by decide)
    dsimp only at HF
    clear ho ha HN HIN hn
    by_cases h44 : ch s q = 44
    · have HR0 := Lib.hid (show R = timesE s low (numF s (q + 1)) by rw [HF.out, if_pos h44])
      have hqlt : q < s.size := ch_ge (by omega)
      rw [decide_eq_true h44] at HI
      have HI := Lib.hid HI
      have HIN2 := Lib.hid (numF_in s (q + 1) hqlt)
      have hqI : (q : Int) < 1000 := by omega
      have HQL := Lib.hid hqlt
      clear HF h44 hqlt hq
      go_wp2_with fail
      refine (HI.out).mono ?_
      rintro e9 w2 ⟨rfl, hb⟩
      have HO2 := Lib.hid ((HO.out.tb hb).st g 1 (.int .i64 ((q : Int) + 1)) (.inl rfl)); have HA2 := Lib.hid (HA.out.below hb)
      have z1 : w2.cell? ⟨g, 1, none⟩ = some (.int .i64 (q : Int)) := HA2.out.cell 1 _ rfl
      have f1 := HA2.out.frozen 1
      have HA3 : Hid (AtG (w2.setCell ⟨g, 1, none⟩ (.int .i64 ((q : Int) + 1))) g 94 (rxr s ((q + 1 : Nat) : Int) o)) := Lib.hid (by
        rw [show ((q + 1 : Nat) : Int) = (q : Int) + 1 from by omega]; exact HA2.out.set 1 _)
      have HN2 := Lib.hid (numX g s (q + 1) o _ HA3.out HQL.out hs)
      clear hb HI
      go_wp2_with fail
      refine (HN2.out).mono ?_
      cases hn : numF s (q + 1) with
      | no c x =>
        rw [hn] at HR0
        have HR := Lib.hid (HR0.out.trans (show timesE s low (.no c x) = .no c x from rfl))
        rintro e9 w3 ⟨ho, b, rfl, hx⟩
        refine ⟨rfl, ?_⟩
        rw [HR.out]
        exact ⟨HO2.out.tr ho, b, rfl, hx⟩
      | ok high r =>
        rw [hn] at HR0 HIN2
        have HR := Lib.hid HR0.out
        have hr : q + 1 + 1 ≤ r ∧ r ≤ s.size := HIN2.out.1
        obtain ⟨hi0, hi1⟩ := HIN2.out.2 high r rfl
        have HRS := Lib.hid hr.2
        rintro e9 w3 ⟨ho, rfl, ha⟩
        have HO4 := Lib.hid (HO2.out.tr ho); have HA4 := Lib.hid ha
        clear ho ha HN2 HR0 HIN2 hn hr HO HA HA2 HA3 z1 f1 HO2
        have HWT := Lib.hid (wantX g s r o 125 w3 HA4.out HRS.out (by omega) (by decide))
        have HWF := Lib.hid (show wantF s 125 r = if ch s r = 125 then .ok () (r + 1) else .no 2 r from rfl)
        have HTE := Lib.hid (show timesE s low (.ok high r) = if ch s r ≠ 125 ∨ high < 1 ∨ 32 < high ∨ high < low then .no 2 r else .ok (low, high) (r + 1) from rfl)
        have hrI : (r : Int) < 1000 := by have := HRS.out; omega
        generalize wantF s 125 r = WR at *
        generalize timesE s low (.ok high r) = TR at *
        generalize ch s r = dr at *
        go_wp2_with fail
        refine (HWT.out).mono ?_
        by_cases hdr : dr = 125
        · have HWR := Lib.hid (HWF.out.trans (if_pos hdr))
          rw [HWR.out]
          rintro e9 wt ⟨ho, rfl, ha⟩
          have HOt := Lib.hid (HO4.out.tr ho); have HAt := Lib.hid ha
          clear ho ha
          by_cases hbad : high < 1 ∨ 32 < high ∨ high < low
          · have HTR := Lib.hid (HTE.out.trans (if_pos (.inr hbad)))
            have z1 : wt.cell? ⟨g, 1, none⟩ = some (.int .i64 ((r + 1 : Nat) : Int)) := HAt.out.cell 1 _ rfl
            rw [show ((r + 1 : Nat) : Int) = (r : Int) + 1 from by omega] at z1
            clear HTE HWF HWR HWT hdr
            have HBD := Lib.hid hbad
            by_cases b1 : high < 1
            · clear hbad
              go_wp2_with fail
              refine (failX g r 2 _).mono ?_
              rintro e9 w2 ⟨hb2, b, rfl, hx⟩
              refine ⟨rfl, ?_⟩
              rw [HR.out, HTR.out]
              exact ⟨HOt.out.tb hb2, b, rfl, hx⟩
            · by_cases b2 : 32 < high
              · clear hbad
                go_wp2_with fail
                refine (failX g r 2 _).mono ?_
                rintro e9 w2 ⟨hb2, b, rfl, hx⟩
                refine ⟨rfl, ?_⟩
                rw [HR.out, HTR.out]
                exact ⟨HOt.out.tb hb2, b, rfl, hx⟩
              · have b3 : high < low := by omega
                try (exfalso; omega)
                all_goals clear hbad
                all_goals (go_wp2_with fail)
                all_goals (refine (failX g r 2 _).mono ?_; rintro e9 w2 ⟨hb2, b, rfl, hx⟩; refine ⟨rfl, ?_⟩; rw [HR.out, HTR.out]; exact ⟨HOt.out.tb hb2, b, rfl, hx⟩)
          · have HTR := Lib.hid (HTE.out.trans (if_neg (by omega)))
            have b1 : ¬ high < 1 := by omega
            have b2 : ¬ 32 < high := by omega
            have b3 : ¬ high < low := by omega
            clear HTE HWF HWR HWT hdr hbad
            go_wp2_with fail
            refine bodyPost_ret (v := .tuple #[.int .i64 low, .int .i64 high]) (by simp [results, Tryz.results107, go_sem]; try rfl) rfl ?_
            rw [HR.out, HTR.out]
            exact ⟨HOt.out, rfl, HAt.out⟩
        · have HWR := Lib.hid (HWF.out.trans (if_neg hdr))
          have HTR := Lib.hid (HTE.out.trans (if_pos (.inl hdr)))
          rw [HWR.out]
          rintro e9 wt ⟨ho, b, rfl, hx⟩
          refine ⟨rfl, ?_⟩
          rw [HR.out, HTR.out]
          exact ⟨HO4.out.tr ho, b, rfl, hx⟩
    · have HR := Lib.hid (show R = timesE s low (.ok low q) by rw [HF.out, if_neg h44])
      rw [decide_eq_false h44] at HI
      have HI := Lib.hid HI
      have HRS := Lib.hid hq.2
      clear HF h44 hq
      go_wp2_with fail
      refine (HI.out).mono ?_
      rintro e9 w2 ⟨rfl, hb⟩
      have HO4 := Lib.hid (HO.out.tb hb); have HA4 := Lib.hid (HA.out.below hb)
      clear hb HI HO HA
      have HWT := Lib.hid (wantX g s q o 125 w2 HA4.out HRS.out (by omega) (by decide))
      have HWF := Lib.hid (show wantF s 125 q = if ch s q = 125 then .ok () (q + 1) else .no 2 q from rfl)
      have HTE := Lib.hid (show timesE s low (.ok low q) = if ch s q ≠ 125 ∨ low < 1 ∨ 32 < low ∨ low < low then .no 2 q else .ok (low, low) (q + 1) from rfl)
      have hrI : (q : Int) < 1000 := by have := HRS.out; omega
      generalize wantF s 125 q = WR at *
      generalize timesE s low (.ok low q) = TR at *
      generalize ch s q = dr at *
      go_wp2_with fail
      refine (HWT.out).mono ?_
      by_cases hdr : dr = 125
      · have HWR := Lib.hid (HWF.out.trans (if_pos hdr))
        rw [HWR.out]
        rintro e9 wt ⟨ho, rfl, ha⟩
        have HOt := Lib.hid (HO4.out.tr ho); have HAt := Lib.hid ha
        clear ho ha
        by_cases hbad : low < 1 ∨ 32 < low ∨ low < low
        · have HTR := Lib.hid (HTE.out.trans (if_pos (.inr hbad)))
          have z1 : wt.cell? ⟨g, 1, none⟩ = some (.int .i64 ((q + 1 : Nat) : Int)) := HAt.out.cell 1 _ rfl
          rw [show ((q + 1 : Nat) : Int) = (q : Int) + 1 from by omega] at z1
          clear HTE HWF HWR HWT hdr
          have HBD := Lib.hid hbad
          by_cases b1 : low < 1
          · clear hbad
            go_wp2_with fail
            refine (failX g q 2 _).mono ?_
            rintro e9 w2 ⟨hb2, b, rfl, hx⟩
            refine ⟨rfl, ?_⟩
            rw [HR.out, HTR.out]
            exact ⟨HOt.out.tb hb2, b, rfl, hx⟩
          · by_cases b2 : 32 < low
            · clear hbad
              go_wp2_with fail
              refine (failX g q 2 _).mono ?_
              rintro e9 w2 ⟨hb2, b, rfl, hx⟩
              refine ⟨rfl, ?_⟩
              rw [HR.out, HTR.out]
              exact ⟨HOt.out.tb hb2, b, rfl, hx⟩
            · have b3 : low < low := by omega
              try (exfalso; omega)
              all_goals clear hbad
              all_goals (go_wp2_with fail)
              all_goals (refine (failX g q 2 _).mono ?_; rintro e9 w2 ⟨hb2, b, rfl, hx⟩; refine ⟨rfl, ?_⟩; rw [HR.out, HTR.out]; exact ⟨HOt.out.tb hb2, b, rfl, hx⟩)
        · have HTR := Lib.hid (HTE.out.trans (if_neg (by omega)))
          have b1 : ¬ low < 1 := by omega
          have b2 : ¬ 32 < low := by omega
          have b3 : ¬ low < low := by omega
          clear HTE HWF HWR HWT hdr hbad
          go_wp2_with fail
          refine bodyPost_ret (v := .tuple #[.int .i64 low, .int .i64 low]) (by simp [results, Tryz.results107, go_sem]; try rfl) rfl ?_
          rw [HR.out, HTR.out]
          exact ⟨HOt.out, rfl, HAt.out⟩
      · have HWR := Lib.hid (HWF.out.trans (if_neg hdr))
        have HTR := Lib.hid (HTE.out.trans (if_pos (.inl hdr)))
        rw [HWR.out]
        rintro e9 wt ⟨ho, b, rfl, hx⟩
        refine ⟨rfl, ?_⟩
        rw [HR.out, HTR.out]
        exact ⟨HO4.out.tr ho, b, rfl, hx⟩
end Go.Proofs.YtgjcibhhffkemaaGreatDoor
